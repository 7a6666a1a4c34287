/- All who live adopt one that is dead, each when it likes: the walk of the law. -/
import Derived.Test.YtmmbicppdjgbmaaGreatBw42

import Derived.Test.YtmmbicppdjgbmaaGreatZBzyP

import Derived.Test.YtmmbicppdjgbmaaGreatZLawX

set_option linter.all false
set_option maxHeartbeats 8000000
set_option maxRecDepth 100000
namespace Go.Proofs.YtmmbicppdjgbmaaGreat

open Go.RowKit

attribute [local go_sem ↓] Go.wp_at_zero Go.wp_at_succ

attribute [local go_sem ↓] pR

theorem yq4{w:World}{v:Value}{xs:List Ch}(h:RdS w 6 v xs.length (xs.flatMap Ch.cells)):RdC w v xs:=by
 obtain⟨ao,cap,e,h1,h2,p,n⟩:=id h;refine⟨ao,cap,e,h1,h2,fun o=>?_⟩;obtain⟨b,off,f,hb,hc⟩:=n (by cases xs with|nil=>exact absurd rfl o|cons a l=>simp);exact⟨b,off,f,hb,fun i j hi m=>by rw[Nat.add_assoc,hc _ (by omega)];exact UM xs i hi j m⟩
theorem ynf(s:Sh)(xs:List Ch)(us:List Int)(v u:Value)(W:World)(hr:RdS W 6 v xs.length (xs.flatMap Ch.cells))(hu:RdZ .u8 W u us)(b6:∀ a ∈ us,0<=a/\a<=255):
  Calls Tryz.prog 5 #[.agg #[s.p,s.c,s.m],v,u] W fun e w'=>e= .returned (.bool true)/\Below W.heap.size W w':=by
 obtain⟨ao,cap,rfl,fh,i8,_,_⟩:=id hr;obtain⟨uo,i2,rfl,ej,i1,_,_⟩:=id hu;obtain⟨n,hn,fs⟩:=hidv xs.length;have b5:=yq4 hr;rw[<-fs]at fh b5 ⊢;clear fs hr;replace b5:=hd' b5;have fz:=hd' (fun j (hj:j<us.length)=>uAt hu hj);replace b6:=hd' fun j (hj:j<us.length)=>b6 us[j] (List.getElem_mem hj);clear hu;have g6:=hd' (fun Y=>sN Y);have J:∀ Y,jK 7 #[.slice ao n cap,.int .i64 600] Y fun e w'=>e= .returned (.bool (decide (n<=600)))/\w'=Y:=fun Y=>qS ao n cap 600 (by omega) Y;have fc:=(Below.refl W.heap.size W).alloc lr (.cells #[s.p,s.c,s.m] 23);have t0:aA (W.alloc (.cells #[s.p,s.c,s.m] 23)) W.heap.size #[s.p,s.c,s.m] 23:=jA _ _;go_in;go_upto_region 3 with(first|(go_at_call 15;refine(g6 _).mono ?_;rintro r w1 ⟨rfl,e7⟩));have t1:=t0.below e7;have S:=zA fc e7;clear t0 fc e7;obtain⟨H,hH,ev⟩:=hidv W.heap.size;rw[<-ev]at t1 ⊢;clear ev;have lH:=t1.lt;obtain⟨c0,c1,c2⟩:=ci3 s.p s.c s.m t1.cell;by_cases I:¬ n<=600
 ·rw[jF I]at J;replace J:=hd' J;clear b5 I;go_wp2_with (first|(go_at_call 7;refine(J _).mono ?_;rintro r w2 ⟨rfl,b0⟩;obtain rfl:=b0.symm));go_returns;exact⟨rfl,S⟩
 replace I:=Decidable.not_not.1 I;rw[jT I]at J;replace J:=hd' J;obtain⟨m,hm,fp⟩:=hidv us.length;rw[<-fp]at ej ⊢;clear fp;by_cases U:s.c<3\/2000<m
 ·clear b5 I b6;by_cases ec:s.c<3
  ·clear U;go_wp2_with (first|(go_at_call 7;refine(J _).mono ?_;rintro r w2 ⟨rfl,b0⟩;obtain rfl:=b0.symm));go_returns;exact⟨rfl,S⟩
  have i3:(2000:Int)<(m:Int):=by omega
  clear U;go_wp2_with (first|(go_at_call 7;refine(J _).mono ?_;rintro r w2 ⟨rfl,b0⟩;obtain rfl:=b0.symm));go_returns;exact⟨rfl,S⟩
 have ec:¬ s.c<3:=fun e=>U (.inl e);have cp:¬ (2000:Int)<(m:Int):=fun e=>U (.inr (by omega));clear U;by_cases O:¬ mayB s.p s.c s.m=true
 ·have e9:=hd' (fun Y=>IQ s Y O);clear b5 I O b6;go_wp2_with (first|(go_at_call 7;refine(J _).mono ?_;rintro r w2 ⟨rfl,b0⟩;obtain rfl:=b0.symm)|(go_at_call 8;refine(e9 _).mono ?_;rintro r w3 ⟨e8,rfl⟩));go_returns;exact⟨rfl,zA S e8⟩
 replace O:=Decidable.not_not.1 O;have i7:=LA.1 O;have g4:=WR O;have cu:=hd' (show 2<s.c by omega);have gf:decide (s.c<3)=false:=jF ec;have fj:decide (2000<(m:Int))=false:=jF cp;have fq:=hd' (show m<=2000 by omega);clear ec cp;have bm:=oK O;have ca:=xG (iS bm xs) (show 0+xs.length<=600 by rw[<-hn];omega);have fi:=hd' (fun Y (hY:Below W.heap.size W Y)=>gZ xs (.slice ao n cap) Y (b5.out.below hY) (by rw[<-hn];omega));have e9:=hd' (QN (W0:=W) (Kp:=kp1 H (.cells #[s.p,s.c,s.m] 23 (0,0))) O S (fun k v hk=>by obtain⟨rfl,rfl⟩:=hk;exact t1));go_upto_region 8 with(first|(go_at_call 7;refine(J _).mono ?_;rintro r w2 ⟨rfl,b0⟩;obtain rfl:=b0.symm)|(go_at_call 8;(with_reducible refine e9.out.mono ?_);rintro r w3 ⟨g,vv,rfl,cz,e8⟩));generalize ex:kp1 H (.cells #[s.p,s.c,s.m] 23 (0,0))=Kp at *;have fk:Hid (∀ (X:World) (d:Wd),KA W g s Kp d X->X.cell? ⟨H,0,.none⟩=some (.int .i64 s.p)/\X.cell? ⟨H,1,.none⟩=some (.int .i64 s.c)/\X.cell? ⟨H,2,.none⟩=some (.int .i64 s.m)/\H<X.heap.size):=hd' fun X d hX=>by have h1:=hX.keep (k:=H) (v:= .cells #[s.p,s.c,s.m] 23 (0,0)) (by rw[<-ex];exact⟨rfl,rfl⟩);exact⟨iA h1 0,iA h1 1,iA h1 2,(jE h1)⟩
 have fw:=hd' (fun X v hb hv=>yo0 (X:=X) cz hb bm.1 xs (by rw[<-hn];omega) v hv);have cj:=hd' cz.ab;clear ex c0 c1 c2 t1 S e8 lH gf fj bm;generalize ((uB s).play s xs).2=pz at *;go_upto_region 9 with(first|(go_at_call 18;refine(fi _ cj.out).mono ?_;rintro r w4 ⟨v4,rfl,fg,g0⟩)|(go_at_call 17;(with_reducible refine(fw _ _ fg g0).mono ?_);rintro r w5 ⟨rfl,ey⟩));generalize (uB s).acts s xs=d at *;have cm:=hd' (bG ey ca.1 (by omega) 4 0 0 0 0 0);have b4:=kC ca ⟨4,0,0,0,0,0⟩;have gh:Hid ((d.act s ⟨4,0,0,0,0,0⟩).2=0->Gone s (d.act s ⟨4,0,0,0,0,0⟩).1 0):=hd' fun h0=>by obtain⟨ho,σ,hw,_⟩:=ca;exact z2e hw ho ⟨Int.le_refl _,by have:=cu.out;omega⟩ h0
 clear fi fw cj cz g0 fg ey ca;generalize (d.act s ⟨4,0,0,0,0,0⟩).1=F at *;generalize (d.act s ⟨4,0,0,0,0,0⟩).2=er at *;obtain⟨kb,gm,fl⟩:∃ kb:Bool,Hid (kb=(er==0))/\(er==0)=kb:=⟨_,hd' rfl,rfl⟩;go_upto_region 10 with(first|(go_at_call 9;(with_reducible refine cm.out.mono ?_);rintro r w6 ⟨rfl,e0⟩));have gg:F.l.length<=12:=by have:=b4.1.len;omega
 have eg:=hd' (yo7 e0 (by omega));have bf:=hd' (yom (d:=F));have bg:=hd' (fun x h=>yob (d:=F) (x:=x) h);have e4:=cX (fun _=>true) F.l F.l.length;obtain⟨LL,i4,cf⟩:∃ LL,Hid (LL=whoL (fun _=>true) F.l F.l.length)/\LL=whoL (fun _=>true) F.l F.l.length:=⟨_,hd' rfl,rfl⟩;rw[<-cf]at eg bf bg e4;clear cf;clear fl cm;go_upto_region 11 with(first|(go_at_call 19;(with_reducible refine eg.out.mono ?_);rintro r w8 ⟨v8,rfl,N,c4⟩));have ez:=e0.news N;obtain⟨al,cl,rfl,gd,hh,_,cs⟩:=RdS.AC c4;have bz:Hid (∀ X d,KA W g s (kpN Kp w6 w8) d X->∀ i (hi:i<LL.length),∃ lb lo,al=some ⟨lb,lo,.none⟩/\X.cell? ⟨lb,lo+i,.none⟩=some (.int .i64 LL[i])/\lb<X.heap.size):=hd' fun X d hX i hi=>by obtain⟨b,off,h1,h2,h3⟩:=cs (by omega);have h4:=(c4.lt b (by rw[h1];rfl)).1;obtain⟨h5,h6⟩:=hX.yr4 (o:=off+i) h4 h2;refine⟨b,off,h1,h5.trans ((h3 i (by omega)).trans ?_),h6⟩;rw[List.getElem?_map,List.getElem?_eq_getElem hi];rfl
 have ef:Hid (∀ (X:World) (d:Wd),KA W g s (kpN Kp w6 w8) d X->X.cell? ⟨H,0,.none⟩=some (.int .i64 s.p)/\X.cell? ⟨H,1,.none⟩=some (.int .i64 s.c)/\X.cell? ⟨H,2,.none⟩=some (.int .i64 s.m)/\H<X.heap.size):=hd' fun X d hX=>fk X d (hX.imp fun k v h=>.inl h);clear fk eg e0 N c4 cs;generalize kpN Kp w6 w8=Kq at *;obtain⟨nL,D,cq⟩:=hidv LL.length;rw[<-cq]at gd e4 ⊢;clear cq;have hx:nL<=12:=by omega
 have f7:=hd' (fun i=>xG (yH b4 (LL.take i)) (show 600+1+(LL.take i).length<=1000 by rw[List.length_take,<- D];omega));have bn:Hid (LL.take nL=LL):=hd' (by rw[D];exact List.take_length);have ew:Hid (invL s F (LL.take 0)=F):=hd' rfl;replace b4:=hd' b4;clear gg e4;go_wp2;go_loopw [11] (fun ek wr=>∃ i:Nat,i<=nL/\ek= .int .i64 i/\KA W g s Kq (invL s F (LL.take i)) wr) (fun ek _=>nL-(intOf ek).toNat);case atStart=>exact⟨0,Nat.zero_le _,rfl,by rw[ew];exact ez⟩
 case round=>
  clear ez;obtain⟨i,hi,rfl,C⟩:=hrel;have B:=f7 i;have ia:(0:Int)<=(i:Int):=by omega
  by_cases cc:i<nL
  ·have b9:(i:Int)<(nL:Int):=by omega
   have ip:IntKind.i64.wrap ((i:Int)+1)=(i:Int)+1:=IntWalk.i64_in _ ⟨by omega,by omega⟩;have T:i<LL.length:=by have:=D.out;omega
   have L:=hd' (yn4 (s:=s) (d:=F) T);obtain⟨lb,lo,rfl,z0,zl⟩:=bz _ _ C i T;generalize LL[i]=y at *;have bv:=hd' (bG C B.1 (by omega) 2 y 4 0 0 0);generalize invL s F (LL.take i)=dx at *;clear B C;go_wp2_with (first|(go_at_call 9;(with_reducible refine bv.out.mono ?_);rintro r w7 ⟨rfl,b1⟩));exact⟨⟨i+1,by omega,by go_num,by rw[L];exact b1⟩,by simp only[intOf];omega⟩
  obtain rfl:i=nL:=by omega
  have U:¬ (i:Int)<(i:Int):=by omega
  obtain⟨V,rfl⟩:∃ V:World,V=wr:=⟨_,rfl⟩;rw[bn]at C B;have eh:=hm.out;obtain⟨TL,i6,b7⟩:=hidv (UI LL us);have ch:TL.length<=m:=by rw[b7,eh];exact yn7 LL us
  have G:TL.length=if i=0 then 0 else m:=by
   rw[b7,eh];unfold UI;by_cases h0:i=0
   ·rw[jP (List.eq_nil_of_length_eq_zero (by rw[<-D];exact h0)),jP h0];rfl
   rw[jN (fun e=>h0 (by rw[D,e];rfl)),jN h0,List.length_map]
  have b8:∀ j (hj:j<TL.length),∃ (hu:j<us.length) (r:Nat) (hr:r<LL.length),(us[j]).tmod (i:Int)=(r:Int)/\TL[j]=LL[r]/\0<i:=fun j hj=>by
   have bw:0<i:=by refine Nat.pos_of_ne_zero fun h0=>?_;rw[G,jP h0]at hj;omega
   have bx:j<us.length:=by rw[G,jN (by omega)]at hj;omega
   have fy:(us[j]).toNat%LL.length<LL.length:=Nat.mod_lt _ (by rw[<-D];exact bw);refine⟨bx,(us[j]).toNat%LL.length,fy,?_,?_,bw⟩
   ·have hz:=(b6 j bx).1;rw[Int.tmod_eq_emod_of_nonneg hz,<- D,Int.natCast_emod,Int.toNat_of_nonneg hz]
   subst b7;unfold UI;simp only[jN (show ¬ LL= [] from fun e=>by rw[D,e]at bw;exact absurd bw (by simp))];rw[List.getElem_map,List.getD_eq_getElem?_getD,List.getElem?_eq_getElem fy];rfl
  replace b8:=hd' b8;clear b7;obtain⟨M,e5,cg⟩:∃ M,Hid (WA s=M)/\WA s=M:=⟨_,hd' rfl,rfl⟩;have cb:=hd' (fun Y=>nN s O Y);rw[cg]at cb g4;clear cg;have ib:=fq.out;have f9:=hd' (fun j=>xG (vH B (TL.take j)) (show 1000+(TL.take j).length<=3000 by rw[List.length_take];omega));have bk:=xG (vH B TL) (show 1000+TL.length<=3000 by omega)
  have c9:=hd' (fun j (hj:j<=2*M)=>xG (PI bk LL j) (show 3000+j*LL.length<=200000 by
   have:j*LL.length<=16000*12:=Nat.mul_le_mul (by omega) (by rw[<-D];omega)
   omega))
  have bj:=hd' (fun j k (hj:j<=2*M)=>xG (vH (c9 j hj) (LL.take k)) (show 200000+(LL.take k).length<=300000 by rw[List.length_take,<- D];omega));have bi:=hd' (yqk (TL:=TL) (R:=2*M) b4 bg (by rw[e5];omega));have bh:=hd' (fun x=>yr1 (LL:=LL) (TL:=TL) (R:=2*M) b4 x);have bb:=hd' (fun hg=>yqm (LL:=LL) (TL:=TL) (R:=2*M) b4 (by have:=cu.out;omega) hg);have f3:Hid (mC s (invL s F LL) (TL.take 0)=invL s F LL):=hd' rfl;have b3:Hid (mC s (invL s F LL) (TL.take TL.length)=mC s (invL s F LL) TL):=hd' (by rw[List.take_length]);replace bk:=hd' bk;clear B f7 eh ew;obtain⟨nT,fu,cr⟩:=hidv TL.length;rw[<-cr]at ch G b3;clear cr;replace G:=hd' G;go_upto_region 15 with fail;clear U;go_wp2;go_loopw [12] (fun el wr=>∃ j:Nat,j<=nT/\el= .int .i64 j/\KA W g s Kq (mC s (invL s F LL) (TL.take j)) wr) (fun el _=>nT-(intOf el).toNat);case atStart=>exact⟨0,Nat.zero_le _,rfl,by rw[f3];exact C⟩
  case round=>
   clear C;obtain⟨j,hj,rfl,C⟩:=hrel;have B:=f9 j;have gj:(0:Int)<=(j:Int):=by omega
   by_cases cc:j<nT
   ·have ed:j<TL.length:=by have:=fu.out;omega
    obtain⟨bx,r,gr,hs,f4,bw⟩:=b8 j ed;have L:=IR (s:=s) (d:=invL s F LL) ed;rw[f4]at L;replace L:=hd' L;have b9:(j:Int)<(m:Int):=by omega
    have hp:(0:Int)<(i:Int):=by omega
    have iq:IntKind.i64.wrap ((j:Int)+1)=(j:Int)+1:=IntWalk.i64_in _ ⟨by omega,by omega⟩;obtain⟨lb,lo,rfl,z0,zl⟩:=bz _ _ C r gr;obtain⟨ub,im,rfl,hz⟩:=fz j bx;obtain⟨ih,ii⟩:=hz _ C.ab;have h7:=b6 j bx;generalize LL[r]=y at *;generalize us[j]=z at *;have bv:=hd' (bG C B.1 (by omega) 3 y 0 0 0 0);generalize mC s (invL s F LL) (TL.take j)=dx at *;have ig:r<i:=by have:=D.out;omega
    have i0:(r:Int)<(i:Int):=by omega
    have ic:(0:Int)<=(r:Int):=by omega
    have wz:IntKind.i64.wrap z=z:=IntWalk.i64_in _ ⟨by omega,by omega⟩;have ir:IntKind.i64.wrap (r:Int)=(r:Int):=IntWalk.i64_in _ ⟨by omega,by omega⟩;have hl:((i:Int)==0)=false:=by simpa using(show ¬ (i:Int)=0 by omega)
    clear B C f4 ed hz h7;go_wp2_with (first|(go_at_call 9;(with_reducible refine bv.out.mono ?_);rintro r w7 ⟨rfl,b1⟩));exact⟨⟨j+1,by omega,by go_num,by rw[L];exact b1⟩,by simp only[intOf];omega⟩
   obtain rfl:j=nT:=by omega
   obtain⟨V2,rfl⟩:∃ V:World,V=wr:=⟨_,rfl⟩;rw[b3]at C;have bu:(i=0/\j=0)\/(0<i/\j=m):=by
    have h1:=G.out;by_cases h0:i=0
    ·rw[jP h0]at h1;exact .inl ⟨h0,h1⟩
    rw[jN h0]at h1;exact .inr ⟨by omega,h1⟩
   have fd:Hid (¬ ((j:Int)<(m:Int)/\(0:Int)<(i:Int))):=hd' (by rcases bu with⟨h1,h2⟩|⟨h1,h2⟩<;>omega);clear bu B b8 fu G b3 f3 f9 fz b6 cc;go_upto_region 16 with fail;go_cut [70] from 62 to 70 (fun h8 wx=>h8= .bool false/\wx=V2);case first=>
    by_cases q1:(j:Int)<(m:Int)
    ·have q2:¬ (0:Int)<(i:Int):=fun e=>fd ⟨q1,e⟩;have il:decide (0<i)=false:=jF (by omega);go_wp2_with fail;go_meet;exact⟨rfl,rfl⟩
    go_wp2_with fail;go_meet;exact⟨rfl,rfl⟩
   obtain⟨rfl,g1⟩:=hcut;obtain rfl:=g1.symm;clear g1;go_upto_region 19 with fail;obtain⟨dT,i9,ck⟩:∃ dT,Hid (dT=mC s (invL s F LL) TL)/\mC s (invL s F LL) TL=dT:=⟨_,hd' rfl,rfl⟩;rw[ck]at C c9 bj bi bh bb;clear ck;have f0:Hid (rndN s LL dT 0=dT):=hd' rfl;have f1:Hid (∀ j,rndN s LL dT (j+1)=mC s (rndN s LL dT j) LL):=hd' fun j=>rfl;have f2:Hid (∀ d,mC s d (LL.take 0)=d):=hd' fun d=>rfl;clear hj gj ch;go_wp2;go_loopw [13] (fun em wr=>∃ q:Nat,q<=2*M/\em= .int .i64 q/\KA W g s Kq (rndN s LL dT q) wr) (fun em _=>2*M-(intOf em).toNat);case atStart=>exact⟨0,Nat.zero_le _,rfl,by rw[f0];exact C⟩
   case round=>
    clear C;obtain⟨q,hq,rfl,C⟩:=hrel;obtain⟨V3,rfl⟩:∃ V:World,V=wr:=⟨_,rfl⟩;obtain⟨c0,c1,c2,lH⟩:=ef _ _ C;have gq:(0:Int)<=(q:Int):=by omega
    have h9:IntKind.i64.wrap (2*(M:Int))=2*(M:Int):=IntWalk.i64_in _ ⟨by omega,by omega⟩;have hf:IntKind.i64.wrap ((q:Int)+1)=(q:Int)+1:=IntWalk.i64_in _ ⟨by omega,by omega⟩;by_cases cc:q<2*M
    ·have b9:(q:Int)<2*(M:Int):=by omega
     go_upto_region 22 with(first|(go_at_call 20;refine(cb _).mono ?_;rintro r w9 ⟨rfl,bs⟩));have bc:=C.below bs;clear bs C c0 c1 c2 lH;have g5:=hd' (f1 q);have f8:=hd' fun k=>bj q k hq;generalize rndN s LL dT q=dq at *;go_wp2;go_loopw [14] (fun ep wr=>∃ k:Nat,k<=i/\ep= .int .i64 k/\KA W g s Kq (mC s dq (LL.take k)) wr) (fun ep _=>i-(intOf ep).toNat);case atStart=>exact⟨0,Nat.zero_le _,rfl,by rw[f2];exact bc⟩
     case round=>
      clear bc;obtain⟨k,hk,rfl,C⟩:=hrel;have B:=f8 k;have gl:(0:Int)<=(k:Int):=by omega
      by_cases gp:k<i
      ·have fm:(k:Int)<(i:Int):=by omega
       have ha:IntKind.i64.wrap ((k:Int)+1)=(k:Int)+1:=IntWalk.i64_in _ ⟨by omega,by omega⟩;have T:k<LL.length:=by have:=D.out;omega
       have L:=hd' (IR (s:=s) (d:=dq) T);obtain⟨lb,lo,rfl,z0,zl⟩:=bz _ _ C k T;generalize LL[k]=y at *;have bv:=hd' (bG C B.1 (by omega) 3 y 0 0 0 0);generalize mC s dq (LL.take k)=dx at *;clear B C;go_wp2_with (first|(go_at_call 9;(with_reducible refine bv.out.mono ?_);rintro r w7 ⟨rfl,b1⟩));exact⟨⟨k+1,by omega,by go_num,by rw[L];exact b1⟩,by simp only[intOf];omega⟩
      obtain rfl:k=i:=by omega
      have U:¬ (k:Int)<(k:Int):=by omega
      rw[bn,<- g5]at C;clear B;go_wp2_with fail;exact⟨⟨q+1,by omega,by go_num,C⟩,by simp only[intOf];omega⟩
    obtain rfl:q=2*M:=by omega
    have b9:¬ (2*(M:Int))<2*(M:Int):=by omega
    have fx:((2*M:Nat):Int)=2*(M:Int):=by omega
    rw[fx];go_upto_region 26 with(first|(go_at_call 20;refine(cb _).mono ?_;rintro r w9 ⟨rfl,bs⟩));have bc:=C.below bs;have f6:=c9 _ lr;replace bi:=bi.out;replace bh:=bh.out;replace bb:=bb.out;clear bs C c0 c1 c2 lH cb c9 bj f1 f0 f2 hq gq fx h9 hf cc b9;generalize rndN s LL dT (2*M)=dR at *;have bp:=hd' (fun k=>yqh f6 bi (LL.take k) (fun y hy=>(bh y).2 (bf y (List.mem_of_mem_take hy))) (by have:=cu.out;omega));replace bb:=hd' bb;have eu:Hid (askL s dR (LL.take 0)=dR):=hd' rfl
    have f5:=hd' (fun k=>xG (bp k).1 (show 200000+(LL.take k).length*(1+WA s)<=400000 by
     have:(LL.take k).length*(1+WA s)<=12*8001:=Nat.mul_le_mul (by rw[List.length_take,<- D];omega) (by have:=e5.out;omega)
     omega))
    have i5:WA s<=8000:=by have:=e5.out;omega
    clear bi bh f6;go_wp2;go_loopw [15] (fun es wr=>∃ k:Nat,k<=i/\es= .int .i64 k/\KA W g s Kq (askL s dR (LL.take k)) wr) (fun es _=>i-(intOf es).toNat);case atStart=>exact⟨0,Nat.zero_le _,rfl,by rw[eu];exact bc⟩
    case round=>
     clear bc;obtain⟨k,hk,rfl,C⟩:=hrel;have B:=f5 k;have gl:(0:Int)<=(k:Int):=by omega
     by_cases gp:k<i
     ·have fm:(k:Int)<(i:Int):=by omega
      have ha:IntKind.i64.wrap ((k:Int)+1)=(k:Int)+1:=IntWalk.i64_in _ ⟨by omega,by omega⟩;have T:k<LL.length:=by have:=D.out;omega
      have L:=hd' (ynz (s:=s) (d:=dR) T);obtain⟨lb,lo,fa,z0,zl⟩:=bz _ _ C k T;have e6:Hid (∀ X d,KA W g s Kq d X->X.cell? ⟨H,0,.none⟩=some (.int .i64 s.p)/\X.cell? ⟨H,1,.none⟩=some (.int .i64 s.c)/\X.cell? ⟨H,2,.none⟩=some (.int .i64 s.m)/\X.cell? ⟨lb,lo+k,.none⟩=some (.int .i64 LL[k])/\H<X.heap.size/\lb<X.heap.size):=hd' fun X d hX=>by obtain⟨k0,k1,k2,k3⟩:=ef _ _ hX;obtain⟨ij,ik,e1,e2,e3⟩:=bz _ _ hX k T;rw[fa]at e1;injection e1 with e1;injection e1 with e1 g2;subst e1 g2;exact⟨k0,k1,k2,e2,k3,e3⟩
      subst fa;generalize LL[k]=y at *;have fb:Hid (∀ X,jW wr X->jK 21 #[some g,.agg #[s.p,s.c,s.m],y,.agg #[.int .i64 4,.int .i64 0,.int .i64 0]] X fun e w'=>∃ a b,e= .returned (.tuple #[.int .i64 a,.bool b])/\KA W g s Kq (askX s (askL s dR (LL.take k)) y) w'):=hd' fun X hX=>(mS (C.below hX) B.1 (by omega) y 4 0 0).mono fun e w' h=>by
       unfold askX;split at h
       ·rename_i h0;rw[jP h0];exact⟨_,_,h.1,h.2⟩
       rename_i h0;rw[jN h0];exact⟨_,_,h.1,h.2⟩
      generalize askL s dR (LL.take k)=dx at *;have N:Hid (Below wr.heap.size wr wr.drew):=hd' br.drew;have g3:=C.below N.out;obtain⟨c0,c1,c2,z0,lH,lL⟩:=e6 _ _ C;clear B C zl;go_upto_region 29 with fail
      go_region_held3 (fun X=>X.cell? ⟨H,0,.none⟩=some (.int .i64 s.p)/\X.cell? ⟨H,1,.none⟩=some (.int .i64 s.c)/\X.cell? ⟨H,2,.none⟩=some (.int .i64 s.m)/\X.cell? ⟨lb,lo+k,.none⟩=some (.int .i64 y)/\H<X.heap.size/\lb<X.heap.size)
       (first|exact e6 _ _ g3|exact e6 _ _ b1)
       (first|(go_at_call 21;refine(fb _ N.out).mono ?_;rintro r w7 ⟨ea,eb,rfl,b1⟩))
      go_wp2_with fail;exact⟨⟨k+1,by omega,by go_num,by rw[L];exact b1⟩,by simp only[intOf];omega⟩
     obtain rfl:k=i:=by omega
     have U:¬ (k:Int)<(k:Int):=by omega
     obtain⟨V5,rfl⟩:∃ V:World,V=wr:=⟨_,rfl⟩;have bq:=bp k;rw[bn]at C B bq;obtain⟨_,c5,E⟩:=bq;have fv:=ym1 c5;replace E:Hid (kb=true->¬ k=0->YF s (askL s dR LL) 0=4):=hd' fun h1 h2=>E (bb (gh (by rw[gm]at h1;simpa using h1))) (fun e=>h2 (by rw[D,e];rfl));clear bp f5 c5 eu;generalize askL s dR LL=dE at *;have ei:dE.tr.length<=100000000:=by have:=B.1.tr;omega
     have fn:dE.l.length<=100:=by have:=B.1.len;omega
     have gs:Hid (∀ Z,jW V5 Z->jK 22 #[some g] Z fun e w'=>∃ ao cap,e= .returned (.slice ao 0 cap)/\Below Z.heap.size Z w'):=hd' fun Z hZ=>by have h1:=yne (C.below hZ) fn;rw[fv]at h1;refine h1.mono fun e w' ⟨v,h2,h3,h4⟩=>?_;obtain⟨ao,cap,rfl,_⟩:=RdS.AC h4;exact⟨ao,cap,h2,h3⟩
     have gz:Hid (∀ Z,jW V5 Z->jK 24 #[some g] Z fun e w'=>∃ v',e= .returned v'/\Below Z.heap.size Z w'/\RdZ .u64 w' v' dE.m.ws):=hd' fun Z hZ=>ON (C.below hZ);have gv:Hid (∀ v X,RdZ .u64 X v dE.m.ws->jK 23 #[.agg #[s.p,s.c,s.m],v] X fun e w'=>e= .returned (.bool true)/\Below X.heap.size X w'):=hd' fun v X hv=>by obtain⟨ho,σ,hw,_⟩:=B;exact XR (hpOf s dE.m) v X hv ho.fit (SN hw.rep hw.gi) (rS hw.rep hw.gi)
     have gw:Hid (∀ Z,jW V5 Z->jK 12 #[some g] Z fun e w'=>∃ v',e= .returned v'/\Below Z.heap.size Z w'/\RdE w' v' dE.tr):=hd' fun Z hZ=>kK (C.below hZ) ei;have gu:Hid (∀ v X,RdE X v dE.tr->jK 11 #[.agg #[s.p,s.c,s.m],v] X fun e w'=>e= .returned (.agg #[.int .i64 (-1),.int .i64 0])/\Below X.heap.size X w'):=hd' fun v X hv=>CN O v dE.tr X hv ei (yG B);have cd:=hd' fun X (hb:Below V5.heap.size V5 X)=>ypi (C.below hb) B.1 0;have hE:=hd' fun X (hb:Below V5.heap.size V5 X)=>(C.below hb).ab;have N:Hid (Below V5.heap.size V5 V5.drew):=hd' br.drew;have hK:Hid (∀ Z,jW V5 Z->Z.cell? ⟨H,0,.none⟩=some (.int .i64 s.p)/\Z.cell? ⟨H,1,.none⟩=some (.int .i64 s.c)/\Z.cell? ⟨H,2,.none⟩=some (.int .i64 s.m)/\H<Z.heap.size):=hd' fun Z hZ=>ef _ _ (C.below hZ);obtain⟨c0,c1,c2,lH⟩:=hK V5 br;clear C B fv ei fn;go_upto_region 30 with fail
     go_region_held3 (fun X=>X.cell? ⟨H,0,.none⟩=some (.int .i64 s.p)/\X.cell? ⟨H,1,.none⟩=some (.int .i64 s.c)/\X.cell? ⟨H,2,.none⟩=some (.int .i64 s.m)/\H<X.heap.size)
      (first|exact hK _ N.out|exact hK _ cx|exact hK _ cy|exact hK _ c7|exact hK _ cv|exact hK _ c6)
      (first|(go_at_call 22;(with_reducible refine(gs _ N.out).mono ?_);rintro r wD ⟨aD,cD,rfl,g8⟩;have c6:=N.out.trans (g8.mono N.out.size))|(go_at_call 24;(with_reducible refine(gz _ c6).mono ?_);rintro r wA ⟨vA,rfl,g7,gx⟩;have cv:=c6.trans (g7.mono c6.size))|(go_at_call 23;refine(gv _ _ gx).mono ?_;rintro r wS ⟨rfl,ga⟩;have c7:=cv.trans (ga.mono cv.size))|(go_at_call 12;(with_reducible refine(gw _ c7).mono ?_);rintro r wT ⟨vT,rfl,gb,gy⟩;have cy:=c7.trans (gb.mono c7.size))|(go_at_call 11;refine(gu _ _ gy).mono ?_;rintro r wR ⟨rfl,g9⟩;have cx:=cy.trans (g9.mono cy.size)))
     go_upto_region 32 with fail;have c8:=hE _ cx;cases kb with
     |false=>clear cd E;go_wp2_with fail;go_returns;exact⟨rfl,c8⟩
     |true=>
      by_cases b2:k=0
      ·have gn:((k:Int)==0)=true:=by rw[b2];rfl
       clear cd E b2;go_wp2_with fail;go_returns;exact⟨rfl,c8⟩
      have gn:((k:Int)==0)=false:=by simpa using b2
      have ba:=cd _ cx;rw[E rfl b2]at ba;replace ba:=hd' ba;clear cd E b2;go_wp2_with (first|(go_at_call 25;(with_reducible refine ba.out.mono ?_);rintro r wX ⟨rfl,gc⟩));go_returns;exact⟨rfl,c8.trans (gc.mono c8.size)⟩
end Go.Proofs.YtmmbicppdjgbmaaGreat

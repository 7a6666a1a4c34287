/- Texts bound together: GivW ChO. -/
import Derived.Test.YtkbddndcegpllaaGreatBg46

set_option linter.all false
set_option maxHeartbeats 8000000
set_option maxRecDepth 100000
namespace Go.Proofs.YtkbddndcegpllaaGreat

section

open Go.RowKit

attribute [local go_sem ↓] Go.wp_at_zero Go.wp_at_succ

theorem given_any(s:Sh)(xs:List Ch)(v:Value)(W:World)(hr:RdS W 6 v xs.length (xs.flatMap Ch.cells)):
  Calls Tryz.prog 3 #[.agg #[.int .i64 s.p,.int .i64 s.c,.int .i64 s.m],v] W fun e w'=>e= .returned (.bool true)/\Below W.heap.size W w':=by
 obtain⟨ao,cap,rfl,ep,fx,_,_⟩:=id hr;obtain⟨n,hn,ex⟩:=hidv xs.length;rw[<-ex]at ep hr ⊢;clear ex;have e7:=hd' (fun i (hi:i<xs.length)=>chAt hn.out hr hi);clear hr;have bu:=hd' (fun Y=>yhf Y);have E:∀ Y,Calls Tryz.prog 15 #[.slice ao n cap,.int .i64 600] Y fun e w'=>e= .returned (.bool (decide (n<=600)))/\w'=Y:=fun Y=>room22 ao n cap 600 (by omega) Y;have J:=(Below.refl W.heap.size W).alloc lr (.cells #[.int .i64 s.p,.int .i64 s.c,.int .i64 s.m] 23);have t0:zaa (W.alloc (.cells #[.int .i64 s.p,.int .i64 s.c,.int .i64 s.m] 23)) W.heap.size #[.int .i64 s.p,.int .i64 s.c,.int .i64 s.m] 23:=heap_alloc_new _ _;by_cases b3:¬ (n<=600/\2<=s.c/\s.p<=4/\mayB s.p s.c s.m=true)
 ·clear e7;by_cases D:n<=600
  ·rw[decide_eq_true D]at E;replace E:=hd' E;by_cases fc:s.c<2
   ·clear b3 D;go_in;go_upto_region 3 with(first|(go_at_call 14;(with_reducible refine(bu.out _).mono ?_);rintro r w1 ⟨rfl,o⟩));have t1:=t0.below o;have c1:=ci s.c (t1.cell 1);have c0:=ci s.p (t1.cell 0);have y:=zab J o;go_wp2_with (first|(go_at_call 15;(with_reducible refine(E.out _).mono ?_);rintro r w2 ⟨rfl,S⟩;obtain rfl:=S.symm));go_returns;exact⟨rfl,y⟩
   by_cases fi:4<s.p
   ·clear b3 D;go_in;go_upto_region 3 with(first|(go_at_call 14;(with_reducible refine(bu.out _).mono ?_);rintro r w1 ⟨rfl,o⟩));have t1:=t0.below o;have c1:=ci s.c (t1.cell 1);have c0:=ci s.p (t1.cell 0);have y:=zab J o;go_wp2_with (first|(go_at_call 15;(with_reducible refine(E.out _).mono ?_);rintro r w2 ⟨rfl,S⟩;obtain rfl:=S.symm));go_returns;exact⟨rfl,y⟩
   have hm:¬ mayB s.p s.c s.m=true:=fun e=>b3 ⟨D,by omega,by omega,e⟩;have e6:=hd' (fun Y=>yfo s Y hm);clear b3 D hm;go_in;go_upto_region 3 with(first|(go_at_call 14;(with_reducible refine(bu.out _).mono ?_);rintro r w1 ⟨rfl,o⟩));have t1:=t0.below o;obtain⟨c0,c1,c2⟩:=ci3 s.p s.c s.m t1.cell;have y:=zab J o;go_wp2_with (first|(go_at_call 15;(with_reducible refine(E.out _).mono ?_);rintro r w2 ⟨rfl,S⟩;obtain rfl:=S.symm)|(go_at_call 16;(with_reducible refine(e6.out _).mono ?_);rintro r w3 ⟨bf,rfl⟩));go_returns;exact⟨rfl,zab y bf⟩
  rw[decide_eq_false D]at E;replace E:=hd' E;clear b3 D;go_in;go_wp2_with (first|(go_at_call 14;(with_reducible refine(bu.out _).mono ?_);rintro r w1 ⟨rfl,o⟩)|(go_at_call 15;(with_reducible refine(E.out _).mono ?_);rintro r w2 ⟨rfl,S⟩;obtain rfl:=S.symm));go_returns;exact⟨rfl,zab J o⟩
 obtain⟨D,fc,fi,hm⟩:=Decidable.not_not.1 b3;clear b3;rw[decide_eq_true D]at E;have fv:=zar.1 hm;have e6:=hd' (fun Y=>znk s Y hm);replace E:=hd' E;obtain⟨c,hc,el⟩:∃ c,Hid (c=s.c-1)/\c=s.c-1:=⟨_,hd' rfl,rfl⟩;have es:0<=c/\c<s.c:=by omega
 have fj:IntKind.i64.wrap (s.c-1)=c:=by rw[el];exact IntWalk.i64_in _ ⟨by omega,by omega⟩
 clear el;have fu:=mostV_le hm;have bn:=ai_new hm;have ei:=hd' (fun i=>ai_weak (ai_actsF (c:=c) bn (xs.take i)) (show 0+(xs.take i).length<=600 by rw[List.length_take,<- hn.out];omega));go_in;go_upto_region 3 with(first|(go_at_call 14;(with_reducible refine(bu.out _).mono ?_);rintro r w1 ⟨rfl,o⟩));have t1:=t0.below o;have y:=zab J o;obtain⟨H,hH,ec⟩:=hidv W.heap.size;rw[<-ec]at t1 y ⊢;have eh:W.heap.size<=H:=by omega
 have lH:=t1.lt;clear ec t0 J o;obtain⟨c0,c1,c2⟩:=ci3 s.p s.c s.m t1.cell;have em:¬ s.c<2:=by omega
 have ez:¬ 4<s.p:=by omega
 go_upto_region 8 with(first|(go_at_call 15;(with_reducible refine(E.out _).mono ?_);rintro r w2 ⟨rfl,S⟩;obtain rfl:=S.symm)|(go_at_call 16;(with_reducible refine(e6.out _).mono ?_);rintro r w3 ⟨bf,g,vv,x0,rfl,f5⟩));have t3:=t1.below bf;have g4:=bf.size;have f6:WdP H _ w3 g s (zde s) x0:=f5.lower (by omega);have cy:Below H W w3:=y.trans (bf.mono (by omega));have d1:=ci s.c (t3.cell 1);have eb:¬ (w1.heap.size<=H/\H<w3.heap.size):=by omega
 go_upto_region 9 with fail;have f7:Hid (actsF s c (zde s) (xs.take 0)=zde s):=hd' rfl;clear d1 c0 c1 c2 t1 y f5 bf lH em ez fj;go_wp2;go_loopw [8] (fun v8 wr=>∃ (i:Nat) (F:Nat->Prop) (x:Wx),i<=n/\v8= .int .i64 i/\WdP H F wr g s (actsF s c (zde s) (xs.take i)) x/\¬ F H/\zaa wr H #[.int .i64 s.p,.int .i64 s.c,.int .i64 s.m] 23/\Below H W wr) (fun v8 _=>n-(intOf v8).toNat);case atStart=>exact⟨0,_,x0,Nat.zero_le _,rfl,by rw[f7.out];exact f6,eb,t3,cy⟩
 case round=>
  clear f6 cy t3;obtain⟨i,F,x,fg,rfl,hx,ba,t,bz⟩:=hrel;have I:=ei.out i;have ev:(0:Int)<=(i:Int):=by omega
  have cg:=hx.lt;have ch:H<=wr.heap.size:=by have:=t.lt;omega
  by_cases hi:i<n
  ·have fy:(i:Int)<(n:Int):=by omega
   have fn:IntKind.i64.wrap ((i:Int)+1)=(i:Int)+1:=IntWalk.i64_in _ ⟨by omega,by omega⟩;have ew:i<xs.length:=hn.out ▸ hi;have bs:=actsF_take (s:=s) (c:=c) (d:=zde s) ew;obtain⟨gb,b8,rfl,G⟩:=e7.out i ew;obtain⟨hq,zl⟩:=G H wr eh bz;generalize actsF s c (zde s) (xs.take i)=d at *;generalize g7:xs[i]=xc at *;obtain⟨ck,cc,co,ca,cn,cb⟩:=xc;dsimp only at bs;have z0:wr.cell? ⟨gb,b8+i*6,.none⟩=some (.int .i64 ck):=hq 0 (by omega);have z1:wr.cell? ⟨gb,b8+i*6+1,.none⟩=some (.int .i64 cc):=hq 1 (by omega);have z2:wr.cell? ⟨gb,b8+i*6+2,.none⟩=some (.int .i64 co):=hq 2 (by omega);have z3:wr.cell? ⟨gb,b8+i*6+3,.none⟩=some (.int .i64 ca):=hq 3 (by omega);have z4:wr.cell? ⟨gb,b8+i*6+4,.none⟩=some (.int .i64 cn):=hq 4 (by omega);have z5:wr.cell? ⟨gb,b8+i*6+5,.none⟩=some (.float .f64 cb):=hq 5 (by omega);have e8:=hd' (fun X=>znm ⟨ck,cc,co,ca,cn,cb⟩ X);replace e8:Hid (∀ X,Calls Tryz.prog 18 #[.agg #[.int .i64 ck,.int .i64 cc,.int .i64 co,.int .i64 ca,.int .i64 cn,.float .f64 cb]] X fun e w'=>e= .returned (.agg #[.int .i64 ck,.int .i64 cc,.int .i64 co,.int .i64 ca,.int .i64 cn,.float .f64 cb])/\Below X.heap.size X w'):=e8;have cm:Hid (∀ X,Below wr.heap.size wr X->Calls Tryz.prog 17 #[.pointer (some ⟨g,0,.none⟩),.agg #[.int .i64 ck,.int .i64 cc,.int .i64 co,.int .i64 ca,.int .i64 cn,.float .f64 cb]] X fun e w'=>e= .returned (.int .i64 (d.act s ⟨ck,cc,co,ca,cn,cb⟩).2)/\WdTo H F X w' g s (d.act s ⟨ck,cc,co,ca,cn,cb⟩).1):=hd' fun X hb=>zkm (hx.below hb) (by have:=hb.size;omega) I.1 (by omega) ⟨ck,cc,co,ca,cn,cb⟩;clear hq G I;by_cases bg:cc=c
   ·have fb:(cc !=c)=false:=by rw[bg];simp
    have U:actsF s c (zde s) (xs.take (i+1))=d:=by rw[bs,if_neg (fun e=>e bg)]
    clear bs bg;go_wp2_with fail;exact⟨⟨i+1,F,x,by omega,by go_num,by rw[U];exact hx,ba,t,bz⟩,by simp only[intOf];omega⟩
   have fb:(cc !=c)=true:=by simpa using bg
   have U:actsF s c (zde s) (xs.take (i+1))=(d.act s ⟨ck,cc,co,ca,cn,cb⟩).1:=by rw[bs,if_pos bg]
   replace U:=hd' U;clear bs bg;go_wp2_with (first|(go_at_call 18;(with_reducible refine(e8.out _).mono ?_);rintro r w6 ⟨rfl,bv⟩)|(go_at_call 17;(with_reducible refine(cm.out _ bv).mono ?_);rintro r w7 ⟨rfl,⟨x7,c9⟩,bi,cj⟩));have g5:=bv.size;have t7:=(t.below bv).only bi ba;have bj:¬ grow F w6 w7 H:=zif ba (t.below bv).lt;have b7:Below H W w7:=(bz.trans (bv.mono ch)).trans (bi.below (by omega) (fun j hj=>(cg j hj).1));exact⟨⟨i+1,_,x7,by omega,by go_num,by rw[U.out];exact c9,bj,t7,b7⟩,by simp only[intOf];omega⟩
  obtain rfl:i=n:=by omega
  have ey:¬ (i:Int)<(i:Int):=by omega
  go_upto_region 14 with fail;have e3:=fresh_actsF (fresh_new hm c) bn (xs.take i);generalize actsF s c (zde s) (xs.take i)=d0 at *;obtain⟨_,k,hk⟩:=fresh_start e3 I.1 es;have bp:=ai_act I ⟨1,c,0,0,0,0⟩;have cm:Hid (Calls Tryz.prog 17 #[.pointer (some ⟨g,0,.none⟩),.agg #[.int .i64 1,.int .i64 c,.int .i64 0,.int .i64 0,.int .i64 0,.float .f64 0]] wr fun e w'=>e= .returned (.int .i64 (d0.act s ⟨1,c,0,0,0,0⟩).2)/\WdTo H F wr w' g s (d0.act s ⟨1,c,0,0,0,0⟩).1):=hd' (zkm hx ch I.1 (by omega) ⟨1,c,0,0,0,0⟩);generalize (d0.act s ⟨1,c,0,0,0,0⟩).1=dS at *;generalize (d0.act s ⟨1,c,0,0,0,0⟩).2=er at *;have cs:=rest_quiet bp hk;have bm:=ai_weak (ai_quiet (c:=c) bp) (show 600+1+12*z5k s+12*(1+z5k s)<=200000 by omega);clear ei e7 e3 hk I bn ey ev fg;go_upto_region 15 with(first|(go_at_call 17;(with_reducible refine cm.out.mono ?_);rintro r w7 ⟨rfl,⟨x7,c9⟩,bi,cj⟩));have t7:=t.only bi ba;have bj:¬ grow F wr w7 H:=zif ba t.lt;have b7:Below H W w7:=bz.trans (bi.below ch (fun j hj=>(cg j hj).1));clear cm;have cd:=c9.lt;generalize grow F wr w7=F7 at *;clear hx cg ba bz bi ch t;have f0:Hid (Calls Tryz.prog 19 #[.pointer (some ⟨g,0,.none⟩),.agg #[.int .i64 s.p,.int .i64 s.c,.int .i64 s.m],.int .i64 c] w7 fun e w'=>e= .returned (.tuple #[])/\WdTo H F7 w7 w' g s (quietW s c dS)):=hd' (quiet_any c9 cj bp (by omega) c es);generalize quietW s c dS=T at *;obtain⟨c0,c1,c2⟩:=ci3 s.p s.c s.m t7.cell;go_upto_region 16 with(first|(go_at_call 19;(with_reducible refine f0.out.mono ?_);rintro r w8 ⟨rfl,⟨x8,cx⟩,e9,f9⟩));have t8:=t7.only e9 bj;have f8:¬ grow F7 w7 w8 H:=zif bj t7.lt;have cz:Below H W w8:=b7.trans (e9.below cj (fun j hj=>(cd j hj).1));clear f0 c0 c1 c2 c9 cd;have cf:=cx.lt;generalize grow F7 w7 w8=F8 at *;clear bj b7 e9 cj t7;have M:Hid (Below w8.heap.size w8 w8.drew):=hd' br.drew;have V:Hid (∀ Z,Below w8.heap.size w8 Z->Z.cell? ⟨H,0,.none⟩=some (.int .i64 s.p)/\Z.cell? ⟨H,1,.none⟩=some (.int .i64 s.c)/\Z.cell? ⟨H,2,.none⟩=some (.int .i64 s.m)):=hd' fun Z hZ=>⟨(t8.below hZ).cell 0,(t8.below hZ).cell 1,(t8.below hZ).cell 2⟩;have cv:Hid (∀ Z,Below w8.heap.size w8 Z->Calls Tryz.prog 21 #[.pointer (some ⟨g,0,.none⟩)] Z fun e w'=>∃ v',e= .returned v'/\Below Z.heap.size Z w'/\RdZ .u64 w' v' T.m.ws):=hd' fun Z hZ=>(ycw (cx.below hZ)).mono fun e w' ⟨v,h1,h2,h3⟩=>⟨v,h1,h2,RdS.zew h3⟩;obtain⟨L,hL,ef⟩:∃ L,Hid (L=(jdOf s T).l)/\L=(jdOf s T).l:=⟨_,hd' rfl,rfl⟩;have b1:=fun Z v hv=>wblocks_any bm v Z hv;rw[<-ef]at b1;clear ef;obtain⟨nl,cr,e4⟩:=hidv L.length
  replace b1:Hid (∀ Z v,RdZ .u64 Z v T.m.ws->Calls Tryz.prog 20 #[.agg #[.int .i64 s.p,.int .i64 s.c,.int .i64 s.m],v] Z fun e w'=>Below Z.heap.size Z w'/\∃ ao cap,e= .returned (.slice ao nl cap)/\nl<=cap/\(cap:Int)<=9223372036854775807/\
   Hid (∀ k (hk:k<L.length),∃ b O,ao=some ⟨b,O,.none⟩/\(Z.heap.size<=b/\b<w'.heap.size)/\w'.cell? ⟨b,O+k*2,.none⟩=some (.int .i64 (L[k]).a)/\w'.cell? ⟨b,O+k*2+1,.none⟩=some (.int .i64 (L[k]).n))):=hd' (by rw[e4];exact b1)
  clear e4;have a0:=t8.lt
  go_region_held3 (fun Y=>Y.cell? ⟨H,0,.none⟩=some (.int .i64 s.p)/\Y.cell? ⟨H,1,.none⟩=some (.int .i64 s.c)/\Y.cell? ⟨H,2,.none⟩=some (.int .i64 s.m))
   (first|exact V.out _ M.out|exact V.out _ C|exact V.out _ B)
   (first|(go_at_call 21;(with_reducible refine(cv.out _ M.out).mono ?_);rintro r w9 ⟨v9,rfl,cl,cu⟩;have C:=M.out.trans (cl.mono M.out.size))|(go_at_call 20;(with_reducible refine(b1.out _ _ cu).mono ?_);rintro r w0 ⟨J,ab,cb,rfl,fw,fp,hR⟩;have B:=C.trans (J.mono C.size)))
  have fk:=cx.below B;have fl:=t8.below B;have ek:Below H W w0:=cz.trans (B.mono f9);have g3:=B.size;have ed:H<=w0.heap.size:=by omega
  have g6:=C.size;have eu:=hd' (fun i=>fr_all bm cs i);have bh:=hd' (fun i=>fr_next (i:=i) bm (fr_all bm cs i));obtain⟨N,hN⟩:∃ N:Nat,(N:Int)=s.p*64:=⟨(s.p*64).toNat,by omega⟩;have c5:=fr_end (c:=c) bm cs hN;rw[<-hL.out]at c5 bh;replace c5:=hd' c5;have fa:N<=256:=by omega
  have bc:Hid (∀ i,i<=N->AI s (frN s c T i) 4000000):=hd' fun i hi=>ai_weak (eu.out i).ai (by
   have:i*(1+z5k s)<=256*8001:=Nat.mul_le_mul (by omega) (by omega)
   omega)
  have c7:Hid (∀ i,kN L i<=nl):=hd' fun i=>by rw[cr.out];have h1:=(eu.out i).kl;rw[<-hL.out]at h1;exact h1
  replace hN:=hd' hN;have e0:Hid (∀ wr,WdTo H F8 w0 wr g s (frN s c T N)->Below H W wr):=hd' fun wr h=>ek.trans (h.2.1.below ed (fun j hj=>(cf j hj).1));have b6:Hid (∀ k (hk:k<L.length),∃ b O,ab=some ⟨b,O,.none⟩/\b<w0.heap.size/\¬ F8 b/\w0.cell? ⟨b,O+k*2,.none⟩=some (.int .i64 (L[k]).a)):=hd' fun k hk=>by obtain⟨b,O,h1,h2,h3,_⟩:=hR.out k hk;exact⟨b,O,h1,h2.2,fun e=>by have:=(cf b e).2;omega,h3⟩
  have eg:WdTo H F8 w0 w0 g s T:=(WdTq.start (R:=fun _=>True) fk ed br trivial).to;clear b1 cv V M C cl cu J hR cz cx t8 a0 cs B;go_wp2_with fail;go_loopw [10,11,12,13,14] (fun fm ea _ _ _ wr=>∃ i:Nat,i<=N/\ea= .int .i64 i/\fm= .int .i64 (kN L i)/\WdTo H F8 w0 wr g s (frN s c T i)) (fun _ ea _ _ _ _=>N-(intOf ea).toNat);case atStart=>exact⟨0,Nat.zero_le _,rfl,rfl,eg⟩
  case round=>
   clear eg;obtain⟨i,hi,rfl,rfl,hT⟩:=hrel;have ev:(0:Int)<=(i:Int):=by omega
   have tr:=fl.only hT.2.1 f8;obtain⟨a0,a1,a2⟩:=ci3 s.p s.c s.m tr.cell;have lA:=tr.lt;have wN:IntKind.i64.wrap (s.p*64)=(N:Int):=by rw[hN.out];exact IntWalk.i64_in _ ⟨by omega,by omega⟩
   by_cases g2:i<N
   ·have fs:(i:Int)<(N:Int):=by omega
    have fn:IntKind.i64.wrap ((i:Int)+1)=(i:Int)+1:=IntWalk.i64_in _ ⟨by omega,by omega⟩;obtain⟨f1,f2,f3,f4⟩:=bh.out i;have q:kN L (i+1)=if (L.drop (kN L i)).head?.any (fun b=>b.a==(i:Int))=true then kN L i+1 else kN L i:=rfl;have I:=bc.out i (by omega);have g1:=c7.out i;have bk:=hT;obtain⟨⟨x',b5⟩,c8,b9⟩:=hT;have b4:frN s c T (i+1)=askW s (frN s c T i) c ⟨2,i,0⟩:=rfl
    have bq:Hid (Calls Tryz.prog 22 #[.pointer (some ⟨g,0,.none⟩),.agg #[.int .i64 s.p,.int .i64 s.c,.int .i64 s.m],.int .i64 c,.agg #[.int .i64 2,.int .i64 (i:Int),.int .i64 0]] wr fun e w'=>e= .returned (.tuple #[.int .i64 (ygv (frN s c T (i+1))),.bool true])/\WdTo H F8 w0 w' g s (frN s c T (i+1))):=hd' (by
     refine(yha b5 b9 I.1 (by omega) c ⟨2,i,0⟩).mono fun e w' h=>?_
     dsimp only at h
     rw[if_pos f1]at h
     rw[b4]
     exact⟨h.1,WdTo.trans bk h.2⟩)
    rw[List.head?_drop]at q f2;have c6:Hid (∀ (X:World) (kk:Nat) (vk:Value),kN L (i+1)=kk->vk= .int .i64 (kk:Int)->WdTo H F8 w0 X g s (frN s c T (i+1))->∃ j:Nat,j<=N/\Value.int .i64 ((i:Int)+1)= .int .i64 j/\vk= .int .i64 (kN L j)/\WdTo H F8 w0 X g s (frN s c T j)):=hd' fun X kk vk h1 h2 h3=>⟨i+1,by omega,by go_num,by rw[h1];exact h2,h3⟩;generalize kN L i=k at *;generalize ygv (frN s c T (i+1))=er at *;have fz:(0:Int)<=(k:Int):=by omega
    by_cases fq:k<nl
    ·have cp:k<L.length:=by have:=cr.out;omega
     obtain⟨bb,O,rfl,o,e5,G⟩:=b6.out k cp;have hz:wr.cell? ⟨bb,O+k*2,.none⟩=some (.int .i64 (L[k]).a):=(World.cell?_of_block (bk.2.1.block bb o e5)).trans G;rw[List.getElem?_eq_getElem cp]at q f2;have fh:(k:Int)<(nl:Int):=by omega
     have g8:IntKind.i64.wrap ((k:Int)+1)=(k:Int)+1:=IntWalk.i64_in _ ⟨by omega,by omega⟩;have e1:Option.any (fun b:Bk=>b.a==(i:Int)) (some L[k])=((L[k]).a==(i:Int)):=rfl;rw[e1]at q f2;generalize (L[k]).a=la at *;have g0:(0:Int)<=(k:Int)*2:=by omega
     clear b6 e1;by_cases cq:la=(i:Int)
     ·have bx:(la==(i:Int))=true:=by simpa using cq
      rw[bx,if_pos rfl]at q;have b2:er=0:=f2.2 bx;subst b2;replace b4:=hd' b4;replace q:=hd' q;clear f2 f3 f4 bk b5 c8 b9 c7 bc bh;subst cq;go_wp2_with (first|(go_at_call 22;(with_reducible refine bq.out.mono ?_);rintro r w2 ⟨rfl,b0⟩;have z:=(World.cell?_of_block (b0.2.1.block bb o e5)).trans G));exact⟨c6.out _ _ _ q.out (by simp) b0,by simp only[intOf];omega⟩
     have bx:(la==(i:Int))=false:=by simpa using cq
     rw[bx,if_neg (by decide)]at q;have b2:er≠0:=fun e=>by have:=f2.1 e;rw[bx]at this;cases this
     have c4:=f3 b2;subst c4;replace b4:=hd' b4;replace q:=hd' q;clear f2 f3 f4 bk b5 c8 b9 c7 bc bh b2 cq;go_wp2_with (first|(go_at_call 22;(with_reducible refine bq.out.mono ?_);rintro r w2 ⟨rfl,b0⟩;have z:=(World.cell?_of_block (b0.2.1.block bb o e5)).trans G));exact⟨c6.out _ _ _ q.out rfl b0,by simp only[intOf];omega⟩
    have cp:L.length<=k:=by have:=cr.out;omega
    rw[List.getElem?_eq_none cp]at q f2;have fh:¬ (k:Int)<(nl:Int):=by omega
    rw[if_neg (by simp)]at q;have b2:er≠0:=fun e=>by have:=f2.1 e;simp at this
    have c4:=f3 b2;subst c4;replace b4:=hd' b4;replace q:=hd' q;clear f2 f3 f4 bk b5 c8 b9 c7 bc bh b2 b6;go_wp2_with (first|(go_at_call 22;(with_reducible refine bq.out.mono ?_);rintro r w2 ⟨rfl,b0⟩));exact⟨c6.out _ _ _ q.out rfl b0,by simp only[intOf];omega⟩
   have fd:i=N:=by omega
   have ey:¬ (i:Int)<(N:Int):=by omega
   subst fd;obtain⟨e1,e2⟩:=c5.out;rw[e1,<- cr.out];have ej:=bc.out i (by omega);have hE:=hd' (e0.out _ hT);have bw:=fun Z v hv=>wblocks_any ej v Z hv;rw[e2]at bw;have b1:Hid (∀ Z v,RdZ .u64 Z v (frN s c T i).m.ws->Calls Tryz.prog 20 #[.agg #[.int .i64 s.p,.int .i64 s.c,.int .i64 s.m],v] Z fun e w'=>Below Z.heap.size Z w'/\∃ ao cap,e= .returned (.slice ao 0 cap)):=hd' fun Z v hv=>(bw Z v hv).mono fun e w' ⟨h1,ao,cap,h2,_⟩=>⟨h1,ao,cap,h2⟩;obtain⟨⟨x',b5⟩,c8,b9⟩:=hT;have M:Hid (Below wr.heap.size wr wr.drew):=hd' br.drew;have V:Hid (∀ Z,Below wr.heap.size wr Z->Z.cell? ⟨H,0,.none⟩=some (.int .i64 s.p)/\Z.cell? ⟨H,1,.none⟩=some (.int .i64 s.c)/\Z.cell? ⟨H,2,.none⟩=some (.int .i64 s.m)):=hd' fun Z hZ=>⟨(tr.below hZ).cell 0,(tr.below hZ).cell 1,(tr.below hZ).cell 2⟩;have cv:Hid (∀ Z,Below wr.heap.size wr Z->Calls Tryz.prog 21 #[.pointer (some ⟨g,0,.none⟩)] Z fun e w'=>∃ v',e= .returned v'/\Below Z.heap.size Z w'/\RdZ .u64 w' v' (frN s c T i).m.ws):=hd' fun Z hZ=>(ycw (b5.below hZ)).mono fun e w' ⟨v,h1,h2,h3⟩=>⟨v,h1,h2,RdS.zew h3⟩;clear bh c7 bc b6 c5 e1 e2 bw b5 c8 b9 e0;go_upto_region 27 with fail
   go_region_held3 (fun Y=>Y.cell? ⟨H,0,.none⟩=some (.int .i64 s.p)/\Y.cell? ⟨H,1,.none⟩=some (.int .i64 s.c)/\Y.cell? ⟨H,2,.none⟩=some (.int .i64 s.m))
    (first|exact V.out _ M.out|exact V.out _ C|exact V.out _ B)
    (first|(go_at_call 21;(with_reducible refine(cv.out _ M.out).mono ?_);rintro r w9 ⟨v9,rfl,cl,cu⟩;have C:=M.out.trans (cl.mono M.out.size))|(go_at_call 20;(with_reducible refine(b1.out _ _ cu).mono ?_);rintro r w0 ⟨J,ab,cb,rfl⟩;have B:=C.trans (J.mono C.size)))
   go_wp2_with fail;go_returns;exact⟨rfl,(hE.out.trans (B.mono (by omega))).mono eh⟩
end

section

open Go.RowKit Go.ChangeShapes Go.WideShapes Go.ChangeAt

section

variable {H:Type} {enc:TypeId × Value->H} {w:World}

theorem ygg{es:List Value}(h:Rd enc Tryz.prog w 32 es):∃ a b c:Int,es= [.int .i64 a,.int .i64 b,.int .i64 c]:=by
 obtain⟨m,i⟩:=zmz Tryz.underlying32 h;have n:Tryz.prog.cellsOf 32=3:=by kernel_rfl
 have k1:Tryz.prog.cellsOf 3=1:=by kernel_rfl
 rw[n]at m;obtain⟨x,y,z,rfl⟩:=ye6 m;have g0:Rd enc Tryz.prog w 3 (([x,y,z].drop 0).take (Tryz.prog.cellsOf 3)):=i 0 _ rfl;have j:Rd enc Tryz.prog w 3 (([x,y,z].drop 1).take (Tryz.prog.cellsOf 3)):=i 1 _ rfl;have l:Rd enc Tryz.prog w 3 (([x,y,z].drop 2).take (Tryz.prog.cellsOf 3)):=i 2 _ rfl;rw[k1]at g0 j l;obtain⟨a,f,_⟩:=zj9 Tryz.underlying3 g0;obtain⟨b,hb,_⟩:=zj9 Tryz.underlying3 j;obtain⟨c,hc,_⟩:=zj9 Tryz.underlying3 l;injection f with f;injection hb with hb;injection hc with hc;subst f hb hc;exact⟨a,b,c,rfl⟩
theorem yf3{es:List Value}(r:es.length=6)(h:Rd enc Tryz.prog w 35 es):∃ c:Ch,c.cells=es/\True:=by
 obtain⟨_,i⟩:=zmz Tryz.underlying35 h;match es,r with
 | [x0,x1,x2,x3,x4,x5],_=>
  have k1:Tryz.prog.cellsOf 3=1:=by kernel_rfl
  have s:Tryz.prog.cellsOf 32=3:=by kernel_rfl
  have y:Tryz.prog.cellsOf 33=1:=by kernel_rfl
  have g0:Rd enc Tryz.prog w 3 (([x0,x1,x2,x3,x4,x5].drop 0).take (Tryz.prog.cellsOf 3)):=i 0 _ rfl;have l:Rd enc Tryz.prog w 3 (([x0,x1,x2,x3,x4,x5].drop 1).take (Tryz.prog.cellsOf 3)):=i 1 _ rfl;have m:Rd enc Tryz.prog w 32 (([x0,x1,x2,x3,x4,x5].drop 2).take (Tryz.prog.cellsOf 32)):=i 2 _ rfl;have n:Rd enc Tryz.prog w 33 (([x0,x1,x2,x3,x4,x5].drop 5).take (Tryz.prog.cellsOf 33)):=i 3 _ rfl;rw[k1]at g0 l;rw[s]at m;rw[y]at n;obtain⟨a,j,_⟩:=zj9 Tryz.underlying3 g0;obtain⟨b,hb,_⟩:=zj9 Tryz.underlying3 l;obtain⟨c,d,e,hc⟩:=ygg m;obtain⟨f,hd,z⟩:=z7d Tryz.underlying33 n;injection j with j;injection hb with hb;injection hd with hd;injection hc with o hc;injection hc with p hc;injection hc with q hc;subst j hb o p q hd;exact⟨⟨a,b,c,d,e,f⟩,rfl,trivial⟩
theorem z6m{v:Value}{r:Reach}{i:Nat}{d:DataW H}{ps:List MemPlace}(l:Value.okWide Tryz.prog w r i 24 v)(j:DataW.Trod enc Tryz.prog w 0 (fun _=>true) true 24 v d ps):
  ∃ xs:List Ch,RdS w 6 v xs.length (xs.flatMap Ch.cells):=by
 obtain⟨xs,b,f⟩:=open_list Ch.cells (fun _=>True) Tryz.underlying24 (sz:=6) (by kernel_rfl) (by omega) (fun _=>rfl) (fun es b f=>yf3 b f) l j;exact⟨xs,b⟩
end

end

end Go.Proofs.YtkbddndcegpllaaGreat

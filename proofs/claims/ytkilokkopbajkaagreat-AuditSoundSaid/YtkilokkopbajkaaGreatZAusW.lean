/- Behind each step all words are sound, and the blocks are those that the history says: the walk of the law. -/
import Derived.Test.YtkilokkopbajkaaGreatBw48

set_option linter.all false
set_option maxHeartbeats 8000000
set_option maxRecDepth 100000
namespace Go.Proofs.YtkilokkopbajkaaGreat

open Go.RowKit

attribute [local go_sem ↓] Go.wp_at_zero Go.wp_at_succ

theorem ymx(s:Sh)(xs:List Ch)(v:Value)(W:World)(hr:RdS W 6 v xs.length (xs.flatMap Ch.cells)):
  Calls Tryz.prog 5 #[.agg #[s.p,s.c,s.m],v] W fun e w'=>e= .returned (.bool true)/\Below W.heap.size W w':=by
 obtain⟨ao,cap,rfl,e3,fj,_,_⟩:=id hr;obtain⟨n,hn,ek⟩:=hidv xs.length;rw[<-ek]at e3 hr ⊢;clear ek;have cf:=hd' (fun i (hi:i<xs.length)=>chAt hn hr hi);clear hr;have f2:=hd' (fun Y=>yl4 Y);have D:∀ Y,jK 9 #[.slice ao n cap,.int .i64 1500] Y fun e w'=>e= .returned (.bool (decide (n<=1500)))/\w'=Y:=fun Y=>qS ao n cap 1500 (by omega) Y;have bq:=(Below.refl W.heap.size W).alloc lr (.cells #[s.p,s.c,s.m] 23);have t0:aA (W.alloc (.cells #[s.p,s.c,s.m] 23)) W.heap.size #[s.p,s.c,s.m] 23:=jA _ _;go_in;go_upto_region 3 with(first|(go_at_call 31;refine(f2 _).mono ?_;rintro r w1 ⟨rfl,c8⟩));have t1:=t0.below c8;have U:=xA bq c8;clear t0 bq c8;obtain⟨H,hH,cq⟩:=hidv W.heap.size;rw[<-cq]at t1 ⊢;clear cq;have lH:=t1.lt;obtain⟨c0,c1,c2⟩:=ci3 s.p s.c s.m t1.cell;by_cases B:¬ n<=1500
 ·rw[jF B]at D;replace D:=hd' D;clear cf B;go_wp2_with (first|(go_at_call 9;refine(D _).mono ?_;rintro r w2 ⟨rfl,bp⟩;obtain rfl:=bp.symm));go_returns;exact⟨rfl,U⟩
 replace B:=Decidable.not_not.1 B;rw[jT B]at D;replace D:=hd' D;by_cases N:¬ mayB s.p s.c s.m=true
 ·have cd:=hd' (fun Y=>JQ s Y N);clear cf B N;go_wp2_with (first|(go_at_call 9;refine(D _).mono ?_;rintro r w2 ⟨rfl,bp⟩;obtain rfl:=bp.symm)|(go_at_call 10;refine(cd _).mono ?_;rintro r w3 ⟨c9,rfl⟩));go_returns;exact⟨rfl,xA U c9⟩
 replace N:=Decidable.not_not.1 N;have fh:=LA.1 N;have cz:=RN N;have cy:=hd' (fun i=>sC (yqc cz (xs.take i)) (show 0+(xs.take i).length<=1500 by rw[List.length_take,<- hn];omega));have cd:=hd' (HN (W0:=W) (Kp:=kp1 H (.cells #[s.p,s.c,s.m] 23 (0,0))) N U (fun k v hk=>by obtain⟨rfl,rfl⟩:=hk;exact t1));go_upto_region 8 with(first|(go_at_call 9;refine(D _).mono ?_;rintro r w2 ⟨rfl,bp⟩;obtain rfl:=bp.symm)|(go_at_call 10;(with_reducible refine cd.out.mono ?_);rintro r w3 ⟨g,vv,rfl,c7,c9⟩));generalize cu:kp1 H (.cells #[s.p,s.c,s.m] 23 (0,0))=Kp at *;have ec:Hid (∀ (X:World) (d:Wd),BA W g s Kp d X->X.cell? ⟨H,0,.none⟩=some (.int .i64 s.p)/\X.cell? ⟨H,1,.none⟩=some (.int .i64 s.c)/\X.cell? ⟨H,2,.none⟩=some (.int .i64 s.m)/\H<X.heap.size):=hd' fun X d hX=>by have h1:=hX.keep (k:=H) (v:= .cells #[s.p,s.c,s.m] 23 (0,0)) (by rw[<-cu];exact⟨rfl,rfl⟩);exact⟨kA h1 0,kA h1 1,kA h1 2,(jE h1)⟩
 have f7:=hd' (yor N c7 br);clear cu c0 c1 c2 t1 U c9 lH;obtain⟨c0,c1,c2,lH⟩:=ec _ _ c7;clear c7;go_upto_region 9 with(first|(go_at_call 32;(with_reducible refine f7.out.mono ?_);rintro r w4 ⟨jb,E,pb,rfl,cr⟩));have cp:Hid ((ZA s).acts s (xs.take 0)=ZA s):=hd' rfl;have ez:Hid (newJ s.p s.c s.m=jdOf s (ZA s)):=hd' rfl;have f0:Hid (((ZA s).tr.length:Nat)=0):=hd' rfl;clear c0 c1 c2 lH;go_wp2;go_loopw [8,9] (fun v8 v9 wr=>∃ i:Nat,i<=n/\v8= .int .i64 (((ZA s).acts s (xs.take i)).tr.length:Nat)/\v9= .int .i64 i/\LawJ W g s Kp ((ZA s).acts s (xs.take i)) jb E pb (jdOf s ((ZA s).acts s (xs.take i))) wr) (fun _ v9 _=>n-(intOf v9).toNat);case atStart=>exact⟨0,Nat.zero_le _,by rw[cp,f0];rfl,rfl,by rw[cp,<- ez];exact cr⟩
 case round=>
  clear cr;obtain⟨i,fn,rfl,rfl,R⟩:=hrel;have bf:=cy i;have fl:(0:Int)<=(i:Int):=by omega
  by_cases hi:i<n
  ·have fm:(i:Int)<(n:Int):=by omega
   have fw:IntKind.i64.wrap ((i:Int)+1)=(i:Int)+1:=IntWalk.i64_in _ ⟨by omega,by omega⟩;have e9:i<xs.length:=hn.out ▸ hi;have bg:=ymo (s:=s) (d:=ZA s) e9;obtain⟨gb,b8,rfl,bj⟩:=cf i e9;obtain⟨hq,zl⟩:=bj W.heap.size wr lr R.law.ab;generalize (ZA s).acts s (xs.take i)=d at *;generalize fu:xs[i]=xc at *;obtain⟨ck,cc,co,ca,cn,cb⟩:=xc;have z0:wr.cell? ⟨gb,b8+i*6,.none⟩=some (.int .i64 ck):=hq 0 (by omega);have z1:wr.cell? ⟨gb,b8+i*6+1,.none⟩=some (.int .i64 cc):=hq 1 (by omega);have z2:wr.cell? ⟨gb,b8+i*6+2,.none⟩=some (.int .i64 co):=hq 2 (by omega);have z3:wr.cell? ⟨gb,b8+i*6+3,.none⟩=some (.int .i64 ca):=hq 3 (by omega);have z4:wr.cell? ⟨gb,b8+i*6+4,.none⟩=some (.int .i64 cn):=hq 4 (by omega);have z5:wr.cell? ⟨gb,b8+i*6+5,.none⟩=some (.float .f64 cb):=hq 5 (by omega);have bv:=hd' (fun X=>NU ⟨ck,cc,co,ca,cn,cb⟩ X);replace bv:Hid (∀ X,jK 12 #[.agg #[ck,cc,co,ca,cn,.float .f64 cb]] X fun e w'=>e= .returned (.agg #[ck,cc,co,ca,cn,.float .f64 cb])/\Below X.heap.size X w'):=bv;have e4:=hd' fun X (hb:Below wr.heap.size wr X)=>yqa (R.below hb) bf.1 (by omega) ck cc co ca cn cb;have q:=cy (i+1);rw[bg]at q;obtain⟨es,cg⟩:=yq6 bf ⟨ck,cc,co,ca,cn,cb⟩;replace bg:=hd' bg;clear hq bj bf;go_upto_region 14 with(first|(go_at_call 12;refine(bv _).mono ?_;rintro r w6 ⟨rfl,e0⟩)|(go_at_call 11;(with_reducible refine(e4 _ e0).mono ?_);rintro r w7 ⟨rfl,c6⟩));clear e4 bv z0 z1 z2 z3 z4 z5 R e0;generalize (d.act s ⟨ck,cc,co,ca,cn,cb⟩).1=d2 at *;generalize (d.act s ⟨ck,cc,co,ca,cn,cb⟩).2=er at *;obtain⟨T,hT,F⟩:∃ T,Hid (T=d2.tr)/\d2.tr=T:=⟨_,hd' rfl,rfl⟩;have f1:T.length<=100000:=by have:=q.1.tr;rw[F]at this;omega
   have O:=WR c6.law (by rw[F];omega);rw[F]at O;obtain⟨h0,e8,b6⟩:∃ h0,Hid (h0=d.tr.length)/\d.tr.length=h0:=⟨_,hd' rfl,rfl⟩;have ba:Hid (jdOf s d=runJ (newJ s.p s.c s.m) (T.take h0)):=hd' (by rw[<-F,cg,<- b6,List.take_left];rfl);have bc:Hid (runJ (newJ s.p s.c s.m) T=jdOf s d2):=hd' (by rw[<-F];rfl);have ey:(runJ (newJ s.p s.c s.m) T).why=0:=by have:=rS q;unfold jdOf at this;rwa [F]at this
   have e6:Hid (∀ h (hh:h<T.length),CG (runJ (newJ s.p s.c s.m) (T.take h)) T[h]=true):=hd' fun h hh=>KR ey h hh;have ep:Hid (∀ h,(0<=(runJ (newJ s.p s.c s.m) (T.take h)).m/\(runJ (newJ s.p s.c s.m) (T.take h)).m<=1000000000)/\(runJ (newJ s.p s.c s.m) (T.take h)).ps.length<=100):=hd' fun h=>DR s.p s.c s.m _ (by rw[List.length_take];omega);have el:Hid (∀ h (hh:h<T.length),runJ (newJ s.p s.c s.m) (T.take (h+1))=CA (runJ (newJ s.p s.c s.m) (T.take h)) T[h]):=hd' fun h hh=>by rw[List.take_succ_eq_append_getElem hh,AN]
   have c5:h0<=T.length:=by rw[<-b6,<- F,cg,List.length_append];omega
   rw[b6];replace O:=hd' O;clear F cg b6 ey;go_upto_region 15 with(first|(go_at_call 26;(with_reducible refine O.out.mono ?_);rintro r w8 ⟨v8,rfl,I,bn⟩));have cs:=c6.news I;have em:RdE w8 v8 T:=RdS.GC bn;obtain⟨al,cl,rfl,f4,fc,b2⟩:=em.nth;obtain⟨m,hm,ej⟩:=hidv T.length;have eg:=bn.lt;rw[<-ej]at f4 f1 c5 ⊢;have e5:Hid (∀ X d J,LawJ W g s (kpN Kp w7 w8) d jb E pb J X->∀ h (hh:h<T.length),∃ eb eo,al=some ⟨eb,eo,.none⟩/\eb<X.heap.size/\∀ k,k<8->X.cell? ⟨eb,eo+h*8+k,.none⟩=(T[h]).cells.toList[k]?):=hd' fun X d J hX h hh=>by obtain⟨b,y,h1,h2,h3⟩:=b2 (fun e=>by rw[e]at hh;exact absurd hh (Nat.not_lt_zero _));have h4:=(eg b (by rw[h1];rfl)).1;refine⟨b,y,h1,(hX.law.EH (o:=0) h4 h2).2,fun k hk=>(hX.law.EH (o:=y+h*8+k) h4 h2).1.trans (h3 h hh k hk)⟩
   have ef:Hid (∀ (X:World) (d:Wd),BA W g s (kpN Kp w7 w8) d X->X.cell? ⟨H,0,.none⟩=some (.int .i64 s.p)/\X.cell? ⟨H,1,.none⟩=some (.int .i64 s.c)/\X.cell? ⟨H,2,.none⟩=some (.int .i64 s.m)/\H<X.heap.size):=hd' fun X d hX=>ec X d (hX.imp fun k v h=>.inl h);have S:Hid (∀ X d J,LawJ W g s (kpN Kp w7 w8) d jb E pb J X->LawJ W g s Kp d jb E pb J X):=hd' fun X d J hX=>hX.imp fun k v h=>.inl h;clear ej b2 eg bn em c6 I O;generalize kpN Kp w7 w8=Kq at *;go_wp2;go_loopw [8] (fun v8 wr=>∃ h:Nat,h0<=h/\h<=m/\v8= .int .i64 h/\LawJ W g s Kq d2 jb E pb (runJ (newJ s.p s.c s.m) (T.take h)) wr) (fun v8 _=>m-(intOf v8).toNat);case atStart=>exact⟨h0,Nat.le_refl _,c5,rfl,by rw[<-ba];exact cs⟩
   case round=>
    clear cs;obtain⟨h,e8,f5,rfl,R⟩:=hrel;have fk:(0:Int)<=(h:Int):=by omega
    by_cases eh:h<m
    ·have ei:(h:Int)<(m:Int):=by omega
     have fv:IntKind.i64.wrap ((h:Int)+1)=(h:Int)+1:=IntWalk.i64_in _ ⟨by omega,by omega⟩;have ch:h<T.length:=hm.out ▸ eh;obtain⟨eb,eo,rfl,lE,hc⟩:=e5 _ _ _ R h ch;have hg:=e6 h ch;have bx:=el h ch;obtain⟨s1,s2⟩:=ep h;obtain⟨e,he⟩:∃ e,T[h]=e:=⟨_,rfl⟩;rw[he]at hc bx hg;have bw:=yoc R e hg s1 s2;unfold Ev.val Ev.cells at bw;have x0:wr.cell? ⟨eb,eo+h*8,.none⟩=some (.int .i64 e.k):=hc 0 (by omega);have x1:wr.cell? ⟨eb,eo+h*8+1,.none⟩=some (.int .i64 e.c):=hc 1 (by omega);have x2:wr.cell? ⟨eb,eo+h*8+2,.none⟩=some (.int .i64 e.ok):=hc 2 (by omega);have x3:wr.cell? ⟨eb,eo+h*8+3,.none⟩=some (.int .i64 e.oa):=hc 3 (by omega);have x4:wr.cell? ⟨eb,eo+h*8+4,.none⟩=some (.int .i64 e.on):=hc 4 (by omega);have x5:wr.cell? ⟨eb,eo+h*8+5,.none⟩=some (.int .i64 e.at'):=hc 5 (by omega);have x6:wr.cell? ⟨eb,eo+h*8+6,.none⟩=some (.int .i64 e.n):=hc 6 (by omega);have x7:wr.cell? ⟨eb,eo+h*8+7,.none⟩=some (.int .i64 e.er):=hc 7 (by omega);have b5:Hid (∀ w',LawJ W g s Kq d2 jb E pb (CA (runJ (newJ s.p s.c s.m) (T.take h)) e) w'->∃ j:Nat,h0<=j/\j<=m/\Value.int .i64 ((h:Int)+1)= .int .i64 j/\LawJ W g s Kq d2 jb E pb (runJ (newJ s.p s.c s.m) (T.take j)) w'):=hd' fun w' hL=>⟨h+1,by omega,by omega,by go_num,by rw[bx];exact hL⟩;replace bw:=hd' bw;clear hc bx he R hg s1 s2;go_wp2_with (go_at_call 33;refine bw.out.mono ?_;rintro r w4 ⟨rfl,hL⟩);exact⟨b5 _ hL,by simp[intOf];omega⟩
    obtain rfl:h=m:=by omega
    have f9:¬ (h:Int)<(h:Int):=by omega
    have cv:T.take h=T:=by rw[hm,List.take_length]
    rw[cv,bc]at R;clear cv;have b5:Hid (∀ w',LawJ W g s Kp d2 jb E pb (jdOf s d2) w'->∃ j:Nat,j<=n/\Value.int .i64 (h:Int)= .int .i64 ((((ZA s).acts s (xs.take j)).tr.length:Nat))/\Value.int .i64 ((i:Int)+1)= .int .i64 j/\LawJ W g s Kp ((ZA s).acts s (xs.take j)) jb E pb (jdOf s ((ZA s).acts s (xs.take j))) w'):=hd' fun w' hL=>⟨i+1,by omega,by rw[bg,<- hT,hm],by go_num,by rw[bg];exact hL⟩;clear ba bc e6 ep el e5 hm hT c5 e8 f5;obtain⟨V,rfl⟩:∃ V:World,V=wr:=⟨_,rfl⟩;have bx:IntKind.i64.wrap ((n:Int)-1)=(n:Int)-1:=IntWalk.i64_in _ ⟨by omega,by omega⟩;by_cases C:(i:Int)%7≠0/\(i:Int)≠(n:Int)-1
    ·have h3:=C.1;have h4:=C.2;have b3:((i:Int)%7 !=0)=true:=by rw[bne_iff_ne];exact h3
     have b4:((i:Int) !=(n:Int)-1)=true:=by rw[bne_iff_ne];exact h4
     clear C;go_wp2_with fail;exact⟨b5 _ (S _ _ _ R),by simp only[intOf];omega⟩
    have e7:(i:Int)%7=0\/((i:Int)%7≠0/\(i:Int)=(n:Int)-1):=by omega
    clear C;go_upto_region 18 with fail;go_cut [63] from 54 to 63 (fun fa wx=>fa= .bool false/\wx=V);case first=>
     rcases e7 with h3|⟨h3,h4⟩
     ·have b3:((i:Int)%7 !=0)=false:=by rw[bne_eq_false_iff_eq];exact h3
      go_wp2_with fail;go_meet;exact⟨rfl,rfl⟩
     have b3:((i:Int)%7 !=0)=true:=by rw[bne_iff_ne];exact h3
     have b4:((i:Int) !=(n:Int)-1)=false:=by rw[bne_eq_false_iff_eq];exact h4
     replace h4:=hd' h4;go_wp2_with fail;go_meet;exact⟨rfl,rfl⟩
    clear e7;obtain⟨rfl,ex⟩:=hcut;obtain rfl:=ex.symm;clear ex;obtain⟨L,fg,bz⟩:∃ L,Hid (L=(jdOf s d2).l)/\(jdOf s d2).l=L:=⟨_,hd' rfl,rfl⟩;obtain⟨jl,jc,ea,fp,bk⟩:=R.rows;have bi:=fun Z v hv=>qK q v Z hv;rw[bz]at ea bk bi;obtain⟨nl,f8,b7⟩:=hidv L.length;rw[<-b7]at ea;replace bk:Hid (∀ X,jW V X->(X.cell? ⟨jb,0,.none⟩=some (.pointer (some ⟨E,0,.none⟩))/\X.cell? ⟨E,0,.none⟩=some (.slice jl nl jc)/\jb<X.heap.size/\E<X.heap.size)/\∀ k (hk:k<L.length),∃ b y,jl=some ⟨b,y,.none⟩/\b<X.heap.size/\X.cell? ⟨b,y+k*2,.none⟩=some (.int .i64 (L[k]).a)/\X.cell? ⟨b,y+k*2+1,.none⟩=some (.int .i64 (L[k]).n)):=hd' (by rw[b7];exact bk)
    replace bi:Hid (∀ Z v,RdZ .u64 Z v d2.m.ws->jK 34 #[.agg #[s.p,s.c,s.m],v] Z fun e w'=>Below Z.heap.size Z w'/\∃ ao cap,e= .returned (.slice ao nl cap)/\nl<=cap/\(cap:Int)<=9223372036854775807/\
     Hid (∀ k (hk:k<L.length),∃ b y,ao=some ⟨b,y,.none⟩/\(Z.heap.size<=b/\b<w'.heap.size)/\w'.cell? ⟨b,y+k*2,.none⟩=some (.int .i64 (L[k]).a)/\w'.cell? ⟨b,y+k*2+1,.none⟩=some (.int .i64 (L[k]).n))):=hd' (by rw[b7];exact bi)
    have cj:Hid (∀ Z,jW V Z->jK 15 #[some g] Z fun e w'=>∃ v',e= .returned v'/\Below Z.heap.size Z w'/\RdZ .u64 w' v' d2.m.ws):=hd' fun Z hZ=>SI (R.law.below hZ);have eu:Hid (∀ v X,RdZ .u64 X v d2.m.ws->jK 35 #[.agg #[s.p,s.c,s.m],v] X fun e w'=>e= .returned (.bool true)/\Below X.heap.size X w'):=hd' fun v X hv=>by obtain⟨_,σ,hw,_⟩:=id q;exact LN (hpOf s d2.m) v X hv q.1.fit (TI hw.rep hw.gi) (UN hw.rep hw.gi)
    have b9:Hid (∀ Z,jW V Z->Z.cell? ⟨H,0,.none⟩=some (.int .i64 s.p)/\Z.cell? ⟨H,1,.none⟩=some (.int .i64 s.c)/\Z.cell? ⟨H,2,.none⟩=some (.int .i64 s.m)/\H<Z.heap.size):=hd' fun Z hZ=>ef _ _ (R.law.below hZ);have f6:Hid (∀ Z,jW V Z->LawJ W g s Kp d2 jb E pb (jdOf s d2) Z):=hd' fun Z hZ=>S _ _ _ (R.below hZ);have I:Hid (Below V.heap.size V V.drew):=hd' br.drew;clear bz b7 R q ef S;obtain⟨c0,c1,c2,lH⟩:=b9 _ br;go_upto_region 19 with fail
    go_region_held3 (fun Y=>Y.cell? ⟨H,0,.none⟩=some (.int .i64 s.p)/\Y.cell? ⟨H,1,.none⟩=some (.int .i64 s.c)/\Y.cell? ⟨H,2,.none⟩=some (.int .i64 s.m)/\H<Y.heap.size)
     (first|exact b9 _ I.out|exact b9 _ b0|exact b9 _ M)
     (first|(go_at_call 15;(with_reducible refine(cj _ I.out).mono ?_);rintro r w9 ⟨v9,rfl,e1,ev⟩;have b0:=I.out.trans (e1.mono I.out.size))|(go_at_call 34;refine(bi _ _ ev).mono ?_;rintro r w0 ⟨bq,ab,cb,rfl,fi,fb,hR⟩;have M:=b0.trans (bq.mono b0.size)))
    have bm:Hid (∀ Z,jW V Z->Z.cell? ⟨H,0,.none⟩=some (.int .i64 s.p)/\Z.cell? ⟨H,1,.none⟩=some (.int .i64 s.c)/\Z.cell? ⟨H,2,.none⟩=some (.int .i64 s.m)/\H<Z.heap.size/\Z.cell? ⟨jb,0,.none⟩=some (.pointer (some ⟨E,0,.none⟩))/\Z.cell? ⟨E,0,.none⟩=some (.slice jl nl jc)/\jb<Z.heap.size/\E<Z.heap.size):=hd' fun Z hZ=>by obtain⟨k0,k1,k2,k3⟩:=b9 Z hZ;obtain⟨⟨j0,j1,j2,j3⟩,_⟩:=bk Z hZ;exact⟨k0,k1,k2,k3,j0,j1,j2,j3⟩
    have G:Hid (Below V.heap.size V w0.drew):=hd' M.drew;clear c0 c1 c2 lH;obtain⟨c0,c1,c2,lH,j0,j1,lj,ls⟩:=bm _ M;go_upto_region 20 with fail
    go_region_held3 (fun Y=>Y.cell? ⟨H,0,.none⟩=some (.int .i64 s.p)/\Y.cell? ⟨H,1,.none⟩=some (.int .i64 s.c)/\Y.cell? ⟨H,2,.none⟩=some (.int .i64 s.m)/\H<Y.heap.size/\Y.cell? ⟨jb,0,.none⟩=some (.pointer (some ⟨E,0,.none⟩))/\Y.cell? ⟨E,0,.none⟩=some (.slice jl nl jc)/\jb<Y.heap.size/\E<Y.heap.size)
     (first|exact bm _ G.out|exact bm _ bs|exact bm _ e2)
     (first|(go_at_call 15;(with_reducible refine(cj _ G.out).mono ?_);rintro r wA ⟨vA,rfl,b1,ew⟩;have bs:=G.out.trans (b1.mono G.out.size))|(go_at_call 35;refine(eu _ _ ew).mono ?_;rintro r wS ⟨rfl,bh⟩;have e2:=bs.trans (bh.mono bs.size)))
    have c4:Below w0.heap.size w0 wS:=((Below.refl w0.heap.size w0).drew.trans (b1.mono lr)).trans (bh.mono b1.size);have fd:nl<=9223372036854775807:=by omega
    clear c0 c1 c2 lH j0 j1 lj ls e2 bs b1 bh ew ev eu cj bi b9 bm G I e1 b0;go_wp2;go_loopw [12] (fun cm wr=>∃ k:Nat,k<=nl/\cm= .int .i64 k/\Below w0.heap.size w0 wr) (fun cm _=>nl-(intOf cm).toNat);case atStart=>exact⟨0,Nat.zero_le _,rfl,c4⟩
    case round=>
     clear c4;obtain⟨k,hk,rfl,bu⟩:=hrel;have fq:(0:Int)<=(k:Int):=by omega
     have cx:Below V.heap.size V wr:=M.trans (bu.mono M.size);by_cases eh:k<nl
     ·have ei:(k:Int)<(nl:Int):=by omega
      have fx:IntKind.i64.wrap ((k:Int)+1)=(k:Int)+1:=IntWalk.i64_in _ ⟨by omega,by omega⟩;have ed:k<L.length:=by have:=f8.out;omega
      obtain⟨bb,bo,rfl,f3,y0,y1⟩:=hR k ed;have y0:=iA bu _ _ _ y0;have y1:=iA bu _ _ _ y1;have lb:=bG y0;obtain⟨⟨j0,j1,lj,ls⟩,hq⟩:=bk _ cx;obtain⟨qb,qo,rfl,lq,q0,q1⟩:=hq k ed;generalize (L[k]).a=a at *;generalize (L[k]).n=z at *;clear hq f3;go_wp2_with fail;go_quiet (fail);go_wp2_with fail;exact⟨⟨k+1,by omega,by go_num,below_drewN bu _⟩,by simp only[intOf];omega⟩
     obtain rfl:k=nl:=by omega
     have fs:¬ (k:Int)<(k:Int):=by omega
     have hE:=f6 _ cx;go_wp2_with fail;exact⟨b5 _ hE,by simp only[intOf];omega⟩
  obtain rfl:i=n:=by omega
  have f9:¬ (i:Int)<(i:Int):=by omega
  go_wp2_with fail;go_returns;exact⟨rfl,R.law.ab⟩
end Go.Proofs.YtkilokkopbajkaaGreat

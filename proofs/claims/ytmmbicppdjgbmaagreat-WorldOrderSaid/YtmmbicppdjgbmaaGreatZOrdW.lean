/- Whatever is chosen, the history is in order: the walk of the law. -/
import Derived.Test.YtmmbicppdjgbmaaGreatBw50

import Derived.Test.YtmmbicppdjgbmaaGreatZOrdP

set_option linter.all false
set_option maxHeartbeats 8000000
set_option maxRecDepth 100000
namespace Go.Proofs.YtmmbicppdjgbmaaGreat

open Go.RowKit

attribute [local go_sem ↓] Go.wp_at_zero Go.wp_at_succ

theorem ym0{s:Sh}{d:Wd}{l:List Ch}{i:Nat}(h:i<l.length):d.acts s (l.take (i+1))=((d.acts s (l.take i)).act s l[i]).1:=by
 rw[List.take_succ_eq_append_getElem h];generalize l.take i=a;induction a generalizing d with
 |nil=>rfl
 |cons x a b=>exact b
theorem yng(w:World):Calls Tryz.prog 13 #[.agg #[.int .i64 (-1),.int .i64 0],.agg #[.int .i64 (-1),.int .i64 0]] w fun e w'=>e= .returned (.bool true)/\Below w.heap.size w w':=by
 obtain⟨t1,j,_,hb⟩:=MD w (.cells #[.int .i64 (-1),.int .i64 0] 46) (.cells #[.int .i64 (-1),.int .i64 0] 41);obtain⟨H,n,b⟩:=hidv w.heap.size;obtain⟨K,o,i⟩:∃ K,Hid (K=w.heap.size+1)/\K=w.heap.size+1:=⟨_,hd' rfl,rfl⟩;go_in;go_upto_region 1 with fail;generalize (w.alloc (.cells #[.int .i64 (-1),.int .i64 0] 46)).alloc (.cells #[.int .i64 (-1),.int .i64 0] 41)=W at *;try rw[<-i]at j ⊢
 rw[<-b]at t1 ⊢;clear b i;have l:=iA t1;have m:=iA j;go_wp2_with fail;go_returns;exact⟨rfl,hb⟩
theorem yoi(s:Sh)(xs:List Ch)(v:Value)(W:World)(hr:RdS W 6 v xs.length (xs.flatMap Ch.cells)):
  Calls Tryz.prog 3 #[.agg #[s.p,s.c,s.m],v] W fun e w'=>e= .returned (.bool true)/\Below W.heap.size W w':=by
 obtain⟨ao,cap,rfl,b9,cl,_,_⟩:=id hr;obtain⟨n,hn,bb⟩:=hidv xs.length;rw[<-bb]at b9 hr ⊢;clear bb;have J:=hd' (fun i (hi:i<xs.length)=>chAt hn hr hi);clear hr;have bp:=hd' (fun Y=>zn0 Y);have l:∀ Y,jK 7 #[.slice ao n cap,.int .i64 3000] Y fun e w'=>e= .returned (.bool (decide (n<=3000)))/\w'=Y:=fun Y=>qS ao n cap 3000 (by omega) Y;have b7:=(Below.refl W.heap.size W).alloc lr (.cells #[s.p,s.c,s.m] 23);have t0:aA (W.alloc (.cells #[s.p,s.c,s.m] 23)) W.heap.size #[s.p,s.c,s.m] 23:=jA _ _;go_in;go_upto_region 3 with(first|(go_at_call 6;refine(bp _).mono ?_;rintro r w1 ⟨rfl,T⟩));have t1:=t0.below T;have y:=zA b7 T;clear t0 b7 T;obtain⟨H,hH,b3⟩:=hidv W.heap.size;rw[<-b3]at t1 ⊢;clear b3;have lH:=t1.lt;obtain⟨c0,c1,c2⟩:=ci3 s.p s.c s.m t1.cell;by_cases b:¬ n<=3000
 ·rw[jF b]at l;replace l:=hd' l;clear J b;go_wp2_with (first|(go_at_call 7;refine(l _).mono ?_;rintro r w2 ⟨rfl,D⟩;obtain rfl:=D.symm));go_returns;exact⟨rfl,y⟩
 replace b:=Decidable.not_not.1 b;rw[jT b]at l;replace l:=hd' l;by_cases j:¬ mayB s.p s.c s.m=true
 ·have b0:=hd' (fun Y=>IQ s Y j);clear J b j;go_wp2_with (first|(go_at_call 7;refine(l _).mono ?_;rintro r w2 ⟨rfl,D⟩;obtain rfl:=D.symm)|(go_at_call 8;refine(b0 _).mono ?_;rintro r w3 ⟨q,rfl⟩));go_returns;exact⟨rfl,zA y q⟩
 replace j:=Decidable.not_not.1 j;have cj:=LA.1 j;have N:=oK j;have b6:=hd' (fun i=>xG (iS N (xs.take i)) (show 0+(xs.take i).length<=3000 by rw[List.length_take,<- hn];omega));have b0:=hd' (QN (W0:=W) (Kp:=kp1 H (.cells #[s.p,s.c,s.m] 23 (0,0))) j y (fun k v hk=>by obtain⟨rfl,rfl⟩:=hk;exact t1));go_upto_region 8 with(first|(go_at_call 7;refine(l _).mono ?_;rintro r w2 ⟨rfl,D⟩;obtain rfl:=D.symm)|(go_at_call 8;(with_reducible refine b0.out.mono ?_);rintro r w3 ⟨g,vv,rfl,b5,q⟩));generalize b4:kp1 H (.cells #[s.p,s.c,s.m] 23 (0,0))=Kp at *;have bx:Hid (∀ (X:World) (d:Wd),KA W g s Kp d X->X.cell? ⟨H,0,.none⟩=some (.int .i64 s.p)/\X.cell? ⟨H,1,.none⟩=some (.int .i64 s.c)/\X.cell? ⟨H,2,.none⟩=some (.int .i64 s.m)/\H<X.heap.size):=hd' fun X d hX=>by have h1:=hX.keep (k:=H) (v:= .cells #[s.p,s.c,s.m] 23 (0,0)) (by rw[<-b4];exact⟨rfl,rfl⟩);exact⟨iA h1 0,iA h1 1,iA h1 2,(jE h1)⟩
 have bm:Hid ((uB s).acts s (xs.take 0)=uB s):=hd' rfl;clear b4 c0 c1 c2 t1 y q lH;go_wp2;go_loopw [7] (fun v9 wr=>∃ i:Nat,i<=n/\v9= .int .i64 i/\KA W g s Kp ((uB s).acts s (xs.take i)) wr) (fun v9 _=>n-(intOf v9).toNat);case atStart=>exact⟨0,Nat.zero_le _,rfl,by rw[bm];exact b5⟩
 case round=>
  clear b5;obtain⟨i,cq,rfl,hL⟩:=hrel;have o:=b6 i;have cm:(0:Int)<=(i:Int):=by omega
  by_cases hi:i<n
  ·have cp:(i:Int)<(n:Int):=by omega
   have cs:IntKind.i64.wrap ((i:Int)+1)=(i:Int)+1:=IntWalk.i64_in _ ⟨by omega,by omega⟩;have ba:i<xs.length:=hn.out ▸ hi;have S:=ym0 (s:=s) (d:=uB s) ba;obtain⟨gb,z,rfl,C⟩:=J i ba;obtain⟨hq,zl⟩:=C W.heap.size wr lr hL.ab;generalize (uB s).acts s (xs.take i)=d at *;generalize cr:xs[i]=xc at *;obtain⟨ck,cc,co,ca,cn,cb⟩:=xc;have z0:wr.cell? ⟨gb,z+i*6,.none⟩=some (.int .i64 ck):=hq 0 (by omega);have z1:wr.cell? ⟨gb,z+i*6+1,.none⟩=some (.int .i64 cc):=hq 1 (by omega);have z2:wr.cell? ⟨gb,z+i*6+2,.none⟩=some (.int .i64 co):=hq 2 (by omega);have z3:wr.cell? ⟨gb,z+i*6+3,.none⟩=some (.int .i64 ca):=hq 3 (by omega);have z4:wr.cell? ⟨gb,z+i*6+4,.none⟩=some (.int .i64 cn):=hq 4 (by omega);have z5:wr.cell? ⟨gb,z+i*6+5,.none⟩=some (.float .f64 cb):=hq 5 (by omega);have b1:=hd' (fun X=>znm ⟨ck,cc,co,ca,cn,cb⟩ X);replace b1:Hid (∀ X,jK 10 #[.agg #[ck,cc,co,ca,cn,.float .f64 cb]] X fun e w'=>e= .returned (.agg #[ck,cc,co,ca,cn,.float .f64 cb])/\Below X.heap.size X w'):=b1;have bw:=hd' fun X (hb:Below wr.heap.size wr X)=>bG (hL.below hb) o.1 (by omega) ck cc co ca cn cb;replace S:=hd' S;clear hq C o;go_wp2_with (first|(go_at_call 10;refine(b1 _).mono ?_;rintro r w6 ⟨rfl,bq⟩)|(go_at_call 9;(with_reducible refine(bw _ bq).mono ?_);rintro r w7 ⟨rfl,bn⟩));exact⟨⟨i+1,by omega,by go_num,by rw[S];exact bn⟩,by simp only[intOf];omega⟩
  obtain rfl:i=n:=by omega
  have bz:¬ (i:Int)<(i:Int):=by omega
  obtain⟨F,rfl⟩:∃ V:World,V=wr:=⟨_,rfl⟩;generalize (uB s).acts s (xs.take i)=M at *;have bf:M.tr.length<=100000:=by have:=o.1.tr;omega
  have bg:Hid (∀ Z,jW F Z->jK 12 #[some g] Z fun e w'=>∃ v',e= .returned v'/\Below Z.heap.size Z w'/\RdE w' v' M.tr):=hd' fun Z hZ=>kK (hL.below hZ) (by omega);have E:=yG o;have c5:Hid (∀ v X,RdE X v M.tr->jK 11 #[.agg #[s.p,s.c,s.m],v] X fun e w'=>e= .returned (.agg #[.int .i64 (-1),.int .i64 0])/\Below X.heap.size X w'):=hd' fun v X hv=>CN j v M.tr X hv (by omega) E;have c4:Hid (∀ v X,RdE X v M.tr->jK 14 #[.agg #[s.p,s.c,s.m],v] X fun e w'=>e= .returned (.agg #[.int .i64 (-1),.int .i64 0])/\Below X.heap.size X w'):=hd' fun v X hv=>by have h1:=ypa s.p s.c s.m v M.tr X hv (yqg j E) bf;rwa [xS E,BS,show (runJ (newJ s.p s.c s.m) M.tr).why=0 from E]at h1
  have c6:=hd' (fun X=>yng X);have hE:=hd' hL.ab;have hK:Hid (∀ Z,jW F Z->Z.cell? ⟨H,0,.none⟩=some (.int .i64 s.p)/\Z.cell? ⟨H,1,.none⟩=some (.int .i64 s.c)/\Z.cell? ⟨H,2,.none⟩=some (.int .i64 s.m)/\H<Z.heap.size):=hd' fun Z hZ=>bx _ _ (hL.below hZ);obtain⟨c0,c1,c2,lH⟩:=hK _ br;clear b6 J o N bz hL bf E;go_upto_region 12 with fail;go_cut [8] (fun c8 wx=>∃ p:Nat,c8= .pointer (some ⟨p,0,.none⟩)/\p<wx.heap.size/\Below F.heap.size F wx/\wx.cell? ⟨p,0,.none⟩=some (.int .i64 (-1))/\wx.cell? ⟨p,1,.none⟩=some (.int .i64 0));case first=>
   go_region_held3 (fun X=>X.cell? ⟨H,0,.none⟩=some (.int .i64 s.p)/\X.cell? ⟨H,1,.none⟩=some (.int .i64 s.c)/\X.cell? ⟨H,2,.none⟩=some (.int .i64 s.m)/\H<X.heap.size)
    (first|exact hK _ (by go_grown))
    (first|(go_at_call 12;(with_reducible refine(bg _ (by go_grown)).mono ?_);rintro r w9 ⟨v9,rfl,b8,bi⟩;have bk:=zA (w:=F) (by go_grown) b8;have ch:=bk.size;try (have G:aA w9 F.heap.size #[.int .i64 0,.int .i64 0] 41:=aA.below (jA F.drew (.cells #[.int .i64 0,.int .i64 0] 41)) b8;have c9:=G.cell;have qF:=DA G))|(go_at_call 11;refine(c5 _ _ (by first|exact bi|exact bi.below (br.alloc lr _))).mono ?_;rintro r w7 ⟨rfl,U⟩;have bj:=zA (w:=F) (by go_grown) U;have cg:=bj.size;try (first|(have G:=G.below U;have cd:=G.cell;have qF:=DA G)|(have G:aA w7 w9.heap.size #[.int .i64 0,.int .i64 0] 41:=aA.below (jA w9 (.cells #[.int .i64 0,.int .i64 0] 41)) U;have cf:=G.cell;have qF:=DA G))))
   all_goals (go_wp2_with fail;go_meet)
   all_goals refine⟨_,rfl,?_,by go_grown,?_,?_⟩
   all_goals first|go_cell|go_size|(simp;done)|(simp;exact G.lt)
  case rest=>
   obtain⟨p,rfl,hp,q,n2,n3⟩:=hcut;obtain⟨L,rfl⟩:∃ V:World,V=wc:=⟨_,rfl⟩;have bc:=q.size;have I:Hid (Below L.heap.size L L.drew):=hd' br.drew;have B:Hid (∀ Y:World,jW L Y->(Y.cell? ⟨H,0,.none⟩=some (.int .i64 s.p)/\Y.cell? ⟨H,1,.none⟩=some (.int .i64 s.c)/\Y.cell? ⟨H,2,.none⟩=some (.int .i64 s.m)/\Y.cell? ⟨p,0,.none⟩=some (.int .i64 (-1))/\Y.cell? ⟨p,1,.none⟩=some (.int .i64 0))):=hd' fun Y hY=>by obtain⟨k0,k1,k2,_⟩:=hK Y (q.trans (hY.mono bc));exact⟨k0,k1,k2,kA hY _ _ _ n2,kA hY _ _ _ n3⟩
   have bh:Hid (∀ Z,jW L Z->jK 12 #[some g] Z fun e w'=>∃ v',e= .returned v'/\Below Z.heap.size Z w'/\RdE w' v' M.tr):=hd' fun Z hZ=>bg Z (q.trans (hZ.mono bc));obtain⟨c0,c1,c2,n2,n3⟩:=B L br;go_upto_region 13 with fail
   go_region_held3 (fun Y=>Y.cell? ⟨H,0,.none⟩=some (.int .i64 s.p)/\Y.cell? ⟨H,1,.none⟩=some (.int .i64 s.c)/\Y.cell? ⟨H,2,.none⟩=some (.int .i64 s.m)/\Y.cell? ⟨p,0,.none⟩=some (.int .i64 (-1))/\Y.cell? ⟨p,1,.none⟩=some (.int .i64 0))
    (first|exact B _ I.out|exact B _ b2|exact B _ O|exact B _ R)
    (first|(go_at_call 12;(with_reducible refine(bh _ I.out).mono ?_);rintro r wT ⟨vT,rfl,bv,c7⟩;have R:=I.out.trans (bv.mono I.out.size))|(go_at_call 14;refine(c4 _ _ c7).mono ?_;rintro r wR ⟨rfl,bs⟩;have O:=R.trans (bs.mono R.size))|(go_at_call 13;refine(c6 _).mono ?_;rintro r wS ⟨rfl,bu⟩;have b2:=O.trans (bu.mono O.size)))
   go_wp2_with fail;go_returns;exact⟨rfl,(hE.out.trans (q.mono hE.out.size)).trans (b2.mono (by have:=hE.out.size;omega))⟩
end Go.Proofs.YtmmbicppdjgbmaaGreat

/- Lemmas for the claim. -/
import Derived.Deep.RegionLawGrows

import Derived.Deep.RegionHeldLaw

import Derived.Test.YtmmbicppdjgbmaaGreatBw20

set_option linter.all false
set_option maxHeartbeats 2000000
set_option maxRecDepth 100000
namespace Go.Proofs.YtmmbicppdjgbmaaGreat

attribute [local go_sem] EA

section

open Go.RowKit

attribute [local go_sem ↓] Go.wp_at_zero Go.wp_at_succ

theorem GV(q:Nat)(s:Sh)(t:Ad)(k a b:Int)(ok:Bool)(w:World)(o:aA w q (EA s t) 256):
  Calls Tryz.prog 270 #[some q,.agg #[k,a,b],ok] w fun e w'=>e= .returned (.bool (ok&&(k==1&&a==t.d)))/\Below w.heap.size w w':=by
 have h0:=o;clear o;obtain⟨sp,I,J⟩:=s;obtain⟨M,N,R,S,C,L,O,pk,pa,pb,p,n⟩:=t;dsimp only;have i:=(Below.refl w.heap.size w).alloc lr (.cells #[k,a,b] 158);have t0:=jA w (.cells #[k,a,b] 158);have G:=h0.lt;go_in;go_upto_region 1 with fail;generalize w.alloc (.cells #[k,a,b] 158)=W at *;have h1:=h0.below i;obtain⟨H,D,m⟩:=hidv w.heap.size;rw[<-m]at t0 ⊢;have F:H<W.heap.size:=(jE t0);have r:=iA t0;have y:=h1.cell;have z:=h1.lt;clear m t0 h0;rcases(by cases ok<;>simp:ok=false\/ok=true) with rfl|rfl;case inr=>
  rcases(by by_cases h:k=1<;>simp[h]:k=1\/(k==1)=false) with rfl|hk;all_goals
   refine wre ?_;repeat (go_big_quiet_step (fail))
   refine wqn fun X l=>?_;have j:=l;go_wp2_with fail;go_returns
  ·exact⟨by simp,zA i j⟩
  exact⟨by simp[hk],zA i j⟩
 case inl=>
  refine wre ?_;repeat (go_big_quiet_step (fail))
  refine wqn fun X l=>?_;have j:=l;go_wp2_with fail;go_returns;exact⟨by simp,zA i j⟩
theorem iL(q p b:Nat)(s:Sh)(t:Ad)(m:Mem)(a:Int)(w:World)(h0:At3 q p b w w (EA s t) 256 m)(Z:Fits s m)(hs:m.st<1000000000)(ha:0<=a/\a<s.p):
  Calls Tryz.prog 268 #[some q,some p,a] w fun e w'=>e= .returned (.tuple #[.agg #[.int .i64 (pgK s a (m.get (pA s.p s.c s.m a))),.int .i64 (pgP s a (m.get (pA s.p s.c s.m a)) 0),.int .i64 (pgP s a (m.get (pA s.p s.c s.m a)) 1)],.bool (MA s.p s.c s.m a (m.get (pA s.p s.c s.m a)))])/\At3 q p b w w' (EA s t) 256 (m.load t.c (pA s.p s.c s.m a)):=by
 obtain⟨O,N⟩:=Z.page ha;have j:=fun Y=>DB s.p s.c s.m a Y;rw[O]at j ⊢;have z:=fun Y (hY:oA Y p b m)=>fF p b m t.c (s.c+a) Y hY N hs;have C:=fun Y=>uJ s a (m.get (s.c+a)) Y (Mem.kF h0.wds.fit _);clear O N Z ha;generalize s.c+a=S at *;generalize m.get S=x at *;generalize MA s.p s.c s.m a x=B at *;generalize pgK s a x=e0 at *;generalize pgP s a x 0=e1 at *;generalize pgP s a x 1=U at *;obtain⟨sp,sc,sm⟩:=s;obtain⟨tc,td,tn,tw,G,ta,ti,pk,pa,pb,n,l⟩:=t;dsimp only at j z C ⊢;replace j:=hd' j;replace z:=hd' z;replace C:=hd' C;have t0:=jA w (.cells #[.int .i64 0,.int .i64 0,.int .i64 0] 158);have I:=h0.alloc (.cells #[.int .i64 0,.int .i64 0,.int .i64 0] 158);go_in;go_upto_region 1 with fail;generalize w.alloc (.cells #[.int .i64 0,.int .i64 0,.int .i64 0] 158)=X at *;obtain⟨H,hH,J⟩:=hidv w.heap.size;rw[<-J]at t0 ⊢;have F:w.heap.size<=H:=by omega
 clear J;have b4:H≠q:=fun e=>by have:=h0.lt;omega
 have b0:H≠p:=fun e=>by have:=h0.wds.ltp;omega
 have b3:H≠b:=fun e=>by have:=h0.wds.ltb;omega
 have D:aA X H #[.int .i64 0,.int .i64 0,.int .i64 0] 158:=t0;clear t0;have lX:=I.lt
 refine ziv 20 (p:= { dst:=none,op:=Op.store 158 (Operand.tmp 6) (Operand.tmp 26),type:=0,pos:=_,after:=_,guard:=none}) (q:= { dst:=some 7,op:=Op.assign (Operand.tmp 27),type:=_,pos:=_,after:=_,guard:=none}) (x:=JA 4) (ld:=16) (v:= .int .u64 x) (ts:= [13,17,23])
  (K0:=fun Y=>At3 q p b w Y (EA ⟨sp,sc,sm⟩ ⟨tc,td,tn,tw,G,ta,ti,pk,pa,pb,n,l⟩) 256 m/\aA Y H #[.int .i64 0,.int .i64 0,.int .i64 0] 158) (K1:=fun Y=>At3 q p b w Y (EA ⟨sp,sc,sm⟩ ⟨tc,td,tn,tw,G,ta,ti,pk,pa,pb,n,l⟩) 256 (m.load tc S)/\aA Y H #[.int .i64 0,.int .i64 0,.int .i64 0] 158)
  (by kernel_rfl) rfl (by kernel_rfl) (by kernel_rfl) (by simp only[List.take,JA,DD,LC,nopO,nopC,Nat.reduceBEq,Bool.or_false,Bool.or_true,Bool.false_eq_true,↓reduceIte,Nat.reduceAdd];exact rfl) (by kernel_rfl) (by kernel_rfl) (by kernel_rfl) (by simp[JA]) (by simp[JA]) (by simp[JA]) (by simp[JA]) (by kernel_rfl) (by simp[JA]) (by simp[JA])
  ⟨⟨fun Y Y' h1 h2 h3=>⟨h1.1.far h2 h3 I.only.size,h1.2.only h3 (by have:=D.lt;omega)⟩⟩,⟨fun Y Y' h1 h2 h3=>⟨h1.1.far h2 h3 I.only.size,h1.2.only h3 (by have:=D.lt;omega)⟩⟩⟩ ⟨I.drew,D.drew⟩ ?_
 apply Exists.intro;refine⟨fun B hb hs=>?_,fun h=>(by simp[JA]at h),fun Q0=>?_,?_⟩;case refine_1=>
  have R:aA B q (EA ⟨sp,sc,sm⟩ ⟨tc,td,tn,tw,G,ta,ti,pk,pa,pb,n,l⟩) 256:=hb.elim (fun h=>h.1.row) (fun h=>h.1.row);have lB:=R.lt;have b2:=R.cell;repeat (go_big_quiet_step ((first|(go_at_call 120;exact xA (j _))|(go_at_call 119;exact xA (C _)))))
  exact wpQuiet_nil rfl
 case refine_2=>exact gF rfl (fun _ _=>by simp[go_sem]) fun Y o hs=>(z Y o.1.wds).mono fun r Y' ⟨h1,h2,h3⟩=>⟨h1,⟨o.1.load h2 h3,o.2.only h3 b0⟩,h3.weak fun k hk=>hk ▸ Nat.lt_of_lt_of_le o.1.ls.2.1 I.only.size⟩
 case refine_3=>intro a w4 M Z;obtain⟨rfl,b1,⟨L,y⟩,_⟩:=Z;obtain⟨z0,z1,z2⟩:=ci3 0 0 0 y.cell;have zf:∀ i,w4.frozen? ⟨H,i,.none⟩=false:=fun i=>DA y i;have hB:=((L.new F 0 (.int .i64 e0)).new F 1 (.int .i64 e1)).new F 2 (.int .i64 U);have hR:=((y.set 0 (.int .i64 e0)).set 1 (.int .i64 e1)).set 2 (.int .i64 U);simp only[JA,vput,List.take,List.size_toArray,List.length_cons,List.length_nil,Nat.reduceAdd,Nat.reduceLT,decide_false,Bool.false_eq_true,if_false];clear L y I h0;go_wp2;generalize World.setCell _ ⟨H,2,.none⟩ (.int .i64 U)=V at *;clear z0 z1 z2 zf;obtain⟨z0,z1,z2⟩:=ci3 e0 e1 U hR.cell;refine bodyPost_ret (by simp[results,Tryz.results268,go_sem,z0,z1,z2];try rfl) rfl ?_;exact⟨rfl,hB⟩
def Ad.page (s:Sh) (t:Ad) (a x:Int):Ad:= { t with pk:=pgK s a x,pa:=pgP s a x 0,pb:=pgP s a x 1 }
theorem QS(s:Sh)(t:Ad)(a x:Int):t.keep s a x=t.page s a x:=rfl
theorem qM(s:Sh)(a x k:Int):(MA s.p s.c s.m a x=true/\PA x=k)↔(MA s.p s.c s.m a x=true/\pgK s a x=k):=by
 unfold pgK;cases MA s.p s.c s.m a x<;>simp
theorem CT(s:Sh)(t:Ad)(a x:Int):t.own s a x=(MA s.p s.c s.m a x&&(pgK s a x==1&&pgP s a x 0==t.d)):=by
 unfold Ad.own pgK pgP;cases MA s.p s.c s.m a x<;>simp
theorem ML(s:Sh)(t:Ad)(m:Mem)(h:t.done=false)(h0:t.next=3):GA s t m=(if MA s.p s.c s.m t.at' (m.get (pA s.p s.c s.m t.at'))=true/\pgK s t.at' (m.get (pA s.p s.c s.m t.at'))=4 then { t.page s t.at' (m.get (pA s.p s.c s.m t.at')) with next:=4} else(t.page s t.at' (m.get (pA s.p s.c s.m t.at'))).turn s 3 6,m.load t.c (pA s.p s.c s.m t.at')):=by
 unfold GA;simp[h,h0,QS,qM]
theorem ZL(s:Sh)(t:Ad)(m:Mem)(h:t.done=false)(h0:t.next=4):GA s t m=(if t.own s t.pa (m.get (pA s.p s.c s.m t.pa))=true then {t with next:=5} else t.turn s 3 6,m.load t.c (pA s.p s.c s.m t.pa)):=by
 unfold GA;simp[h,h0]
theorem JL(s:Sh)(t:Ad)(m:Mem)(h:t.done=false)(h0:t.next=5):GA s t m=(t.turn s 3 6,m.store t.c (pA s.p s.c s.m t.at') 0):=by
 unfold GA;simp[h,h0]
theorem dM(s:Sh)(t:Ad)(m:Mem)(h:t.done=false)(h0:t.next=6):GA s t m=(if t.own s t.at' (m.get (pA s.p s.c s.m t.at'))=true then {t with next:=7,i:=0} else t.turn s 6 9,m.load t.c (pA s.p s.c s.m t.at')):=by
 unfold GA;simp[h,h0]
theorem GL(s:Sh)(t:Ad)(m:Mem)(h:t.done=false)(h0:t.next=7):GA s t m=(if t.i+1=16 then {t with i:=t.i+1,next:=8} else {t with i:=t.i+1},m.store t.c (XA s.p s.c s.m t.at' t.i) 0):=by
 unfold GA;simp[h,h0]
theorem KL(s:Sh)(t:Ad)(m:Mem)(h:t.done=false)(h0:t.next=8):GA s t m=(t.turn s 6 9,m.store t.c (pA s.p s.c s.m t.at') 0):=by
 unfold GA;simp[h,h0]
theorem z9q(q p b:Nat)(s:Sh)(t:Ad)(m:Mem)(w:World)(h0:At3 q p b w w (EA s t) 256 m)(U:Fits s m)(hs:m.st<1000000000)(G:t.done=false)(V:t.next=3)(H:0<=t.at'/\t.at'<s.p):
  Calls Tryz.prog 265 #[some q,some p] w fun e w'=>e= .returned (.tuple #[])/\At3 q p b w w' (EA s (GA s t m).1) 256 (GA s t m).2:=by
 have j:0<=t.at'/\t.at'<64:=by have:=U.bd;omega
 rw[ML s t m G V];have l:=iL q p b s t m t.at' w h0 U hs H;generalize pA s.p s.c s.m t.at'=pg at *;generalize m.get pg=x at *;unfold Ad.page;have n:=fun Y (hY:aA Y q (EA s {t with pk:=pgK s t.at' x,pa:=pgP s t.at' x 0,pb:=pgP s t.at' x 1}) 256)=>CH q s {t with pk:=pgK s t.at' x,pa:=pgP s t.at' x 0,pb:=pgP s t.at' x 1} 3 6 Y hY j;generalize MA s.p s.c s.m t.at' x=B at *;generalize pgK s t.at' x=o at *;generalize pgP s t.at' x 0=D at *;generalize pgP s t.at' x 1=F at *;dsimp only;obtain⟨X,i,C⟩:∃ X:Ad,Hid (X=if B=true/\o=4 then {t with pk:=o,pa:=D,pb:=F,next:=4} else({t with pk:=o,pa:=D,pb:=F}:Ad).turn s 3 6)/\X=_:=⟨_,hd' rfl,rfl⟩;rw[<-C];clear C j;obtain⟨sp,sc,sm⟩:=s;obtain⟨tc,td,tn,tw,b3,ta,ti,pk,pa,pb,b0,Z⟩:=t;dsimp only at G V H l n i ⊢;subst G V;replace l:=hd' l;replace n:=hd' n;have lq:=h0.lt;have L:=h0.cell;clear U hs;go_in;go_upto_region 5 with(go_at_call 268;(with_reducible refine l.out.mono ?_);rintro r J ⟨rfl,M⟩);have y:=M.alloc (.cells #[o,D,F] 158);have O:aA (J.alloc (.cells #[o,D,F] 158)) J.heap.size #[o,D,F] 158:=jA _ _;have S:J.heap.size≠q:=fun e=>by have:=M.lt;omega
 generalize J.alloc (.cells #[o,D,F] 158)=Y at *;obtain⟨E,R,z⟩:=hidv J.heap.size;simp only[<-z]at O S ⊢;clear z R M L l;have lY:=y.lt;have lE:=O.lt;have b1:=O.cell;have b2:=y.cell;have zf:=y.free;have N:=((y.set 10 (.int .i64 o)).set 11 (.int .i64 D)).set 12 (.int .i64 F);by_cases hc:B=true/\o=4
 ·replace i:=hd' (i.out.trans (jP hc));obtain⟨rfl,rfl⟩:=hc;have hD:=((N.set 5 (.int .i64 4)));clear n;go_wp2_with fail;go_returns;exact⟨rfl,by rw[i];exact hD⟩
 replace i:=hd' (i.out.trans (jN hc));have I:B=false\/(B=true/\(o==4)=false):=by
  cases B
  ·exact .inl rfl
  exact .inr ⟨rfl,by simpa using hc⟩
 clear hc;rcases I with rfl|⟨rfl,I⟩;all_goals go_wp2_with (go_at_call 269;(with_reducible refine(n _ N.row).mono ?_);rintro r w3 hT;obtain rfl:=hT.ret);go_returns;exact⟨rfl,by rw[i];exact N.turned hT⟩
theorem WX(q p b:Nat)(s:Sh)(t:Ad)(m:Mem)(w:World)(h0:At3 q p b w w (EA s t) 256 m)(L:Fits s m)(hs:m.st<1000000000)(F:t.done=false)(H:t.next=4)(J:0<=t.at'/\t.at'<s.p)(M:t.next=4->0<=t.pa/\t.pa<s.p):
  Calls Tryz.prog 265 #[some q,some p] w fun e w'=>e= .returned (.tuple #[])/\At3 q p b w w' (EA s (GA s t m).1) 256 (GA s t m).2:=by
 have l:0<=t.at'/\t.at'<64:=by have:=L.bd;omega
 rw[ZL s t m F H];rw[CT];have n:=iL q p b s t m t.pa w h0 L hs (M H);have y:=fun Y (I:aA Y q (EA s t) 256)=>CH q s t 3 6 Y I l;generalize pA s.p s.c s.m t.pa=pg at *;generalize m.get pg=x at *;generalize MA s.p s.c s.m t.pa x=B at *;generalize pgK s t.pa x=R at *;generalize pgP s t.pa x 0=S at *;generalize pgP s t.pa x 1=e2 at *;have i:=fun Y (I:aA Y q (EA s t) 256)=>GV q s t R S e2 B Y I;generalize (B&&(R==1&&S==t.d))=o at *;dsimp only;obtain⟨N,j,C⟩:∃ N:Ad,Hid (N=if o=true then {t with next:=5} else t.turn s 3 6)/\N=_:=⟨_,hd' rfl,rfl⟩;rw[<-C];clear C l;obtain⟨sp,sc,sm⟩:=s;obtain⟨tc,td,tn,tw,b1,ta,ti,pk,pa,pb,V,O⟩:=t;dsimp only at F H J n y i j ⊢;subst F H;replace n:=hd' n;replace y:=hd' y;replace i:=hd' i;have lq:=h0.lt;have X:=h0.cell;clear L hs;go_in;rcases(by cases o<;>simp:o=true\/o=false) with rfl|rfl
 ·replace j:=hd' (j.out.trans (jP rfl));clear y;go_wp2_with (first|(go_at_call 268;(with_reducible refine n.out.mono ?_);rintro r w1 ⟨rfl,G⟩)|(go_at_call 270;(with_reducible refine(i _ G.row).mono ?_);rintro r w2 ⟨rfl,D⟩;have z:=G.below D;have Z:=z.cell;have zf:=z.free));go_returns;exact⟨rfl,by rw[j];exact z.set 5 _⟩
 replace j:=hd' (j.out.trans (jN (by decide)));go_wp2_with (first|(go_at_call 268;(with_reducible refine n.out.mono ?_);rintro r w1 ⟨rfl,G⟩)|(go_at_call 270;(with_reducible refine(i _ G.row).mono ?_);rintro r w2 ⟨rfl,D⟩;have z:=G.below D;have b0:=z.cell;have zf:=z.free)|(go_at_call 269;(with_reducible refine(y _ z.row).mono ?_);rintro r w3 U;obtain rfl:=U.ret));go_returns;exact⟨rfl,by rw[j];exact z.turned U⟩
theorem z9w(q p b:Nat)(s:Sh)(t:Ad)(m:Mem)(w:World)(h0:At3 q p b w w (EA s t) 256 m)(H:Fits s m)(hs:m.st<1000000000)(y:t.done=false)(I:t.next=5)(o:0<=t.at'/\t.at'<s.p):
  Calls Tryz.prog 265 #[some q,some p] w fun e w'=>e= .returned (.tuple #[])/\At3 q p b w w' (EA s (GA s t m).1) 256 (GA s t m).2:=by
 have j:0<=t.at'/\t.at'<64:=by have:=H.bd;omega
 rw[JL s t m y I];obtain⟨C,z⟩:=H.page o;have i:=fun Y=>DB s.p s.c s.m t.at' Y;rw[C]at i ⊢;have n:=fun Y (F:oA Y p b m)=>nC p b m t.c (s.c+t.at') 0 Y F z (by decide) hs;have l:=fun Y (F:aA Y q (EA s t) 256)=>CH q s t 3 6 Y F j;generalize s.c+t.at'=pg at *;dsimp only;obtain⟨S,D⟩:∃ S,S=t.turn s 3 6:=⟨_,rfl⟩;rw[<-D]at l ⊢;clear D C z H j;obtain⟨sp,sc,sm⟩:=s;obtain⟨tc,td,tn,tw,b0,ta,ti,pk,pa,pb,U,M⟩:=t;dsimp only at y I o i n l ⊢;subst y I;replace i:=hd' i;replace n:=hd' n;replace l:=hd' l;have X:=h0.lt;have V:=h0.cell;clear o;go_in;go_upto_region 14 with fail;refine wret 14 ?_;repeat (go_big_quiet_step (((go_at_call 120;exact xA (i _)))))
 refine wqn fun Z G=>?_;have R:=h0.below G;clear X h0;go_wp2_with (first|(go_at_call 226;(with_reducible refine(n _ R.wds).mono ?_);rintro r w2 ⟨rfl,L,J⟩;have N:=R.access L J)|(go_at_call 269;(with_reducible refine(l _ N.row).mono ?_);rintro r w3 O;obtain rfl:=O.ret));go_returns;exact⟨rfl,N.turned O⟩
theorem xY(q p b:Nat)(s:Sh)(t:Ad)(m:Mem)(w:World)(h0:At3 q p b w w (EA s t) 256 m)(L:Fits s m)(hs:m.st<1000000000)(G:t.done=false)(M:t.next=6)(I:0<=t.at'/\t.at'<s.p):
  Calls Tryz.prog 265 #[some q,some p] w fun e w'=>e= .returned (.tuple #[])/\At3 q p b w w' (EA s (GA s t m).1) 256 (GA s t m).2:=by
 have n:0<=t.at'/\t.at'<64:=by have:=L.bd;omega
 rw[dM s t m G M];rw[CT];have y:=iL q p b s t m t.at' w h0 L hs I;have z:=fun Y (J:aA Y q (EA s t) 256)=>CH q s t 6 9 Y J n;generalize pA s.p s.c s.m t.at'=pg at *;generalize m.get pg=x at *;generalize MA s.p s.c s.m t.at' x=B at *;generalize pgK s t.at' x=R at *;generalize pgP s t.at' x 0=S at *;generalize pgP s t.at' x 1=e2 at *;have j:=fun Y (J:aA Y q (EA s t) 256)=>GV q s t R S e2 B Y J;generalize (B&&(R==1&&S==t.d))=o at *;dsimp only;obtain⟨N,l,D⟩:∃ N:Ad,Hid (N=if o=true then {t with next:=7,i:=0} else t.turn s 6 9)/\N=_:=⟨_,hd' rfl,rfl⟩;rw[<-D];clear D n;obtain⟨sp,sc,sm⟩:=s;obtain⟨tc,td,tn,tw,b1,ta,ti,pk,pa,pb,V,O⟩:=t;dsimp only at G M I y z j l ⊢;subst G M;replace y:=hd' y;replace z:=hd' z;replace j:=hd' j;have lq:=h0.lt;have X:=h0.cell;clear L hs;go_in;rcases(by cases o<;>simp:o=true\/o=false) with rfl|rfl
 ·replace l:=hd' (l.out.trans (jP rfl));clear z;go_wp2_with (first|(go_at_call 268;(with_reducible refine y.out.mono ?_);rintro r w1 ⟨rfl,H⟩)|(go_at_call 270;(with_reducible refine(j _ H.row).mono ?_);rintro r w2 ⟨rfl,F⟩;have C:=H.below F;have Z:=C.cell;have zf:=C.free));go_returns;exact⟨rfl,by rw[l];exact(C.set 5 _).set 9 _⟩
 replace l:=hd' (l.out.trans (jN (by decide)));go_wp2_with (first|(go_at_call 268;(with_reducible refine y.out.mono ?_);rintro r w1 ⟨rfl,H⟩)|(go_at_call 270;(with_reducible refine(j _ H.row).mono ?_);rintro r w2 ⟨rfl,F⟩;have C:=H.below F;have b0:=C.cell;have zf:=C.free)|(go_at_call 269;(with_reducible refine(z _ C.row).mono ?_);rintro r w3 U;obtain rfl:=U.ret));go_returns;exact⟨rfl,by rw[l];exact C.turned U⟩
theorem YX(q p b:Nat)(s:Sh)(t:Ad)(m:Mem)(w:World)(h0:At3 q p b w w (EA s t) 256 m)(L:Fits s m)(hs:m.st<1000000000)(D:t.done=false)(M:t.next=7)(z:0<=t.at'/\t.at'<s.p)(hi:0<=t.i/\t.i<16):
  Calls Tryz.prog 265 #[some q,some p] w fun e w'=>e= .returned (.tuple #[])/\At3 q p b w w' (EA s (GA s t m).1) 256 (GA s t m).2:=by
 have C:0<=t.at'/\t.at'<64:=by have:=L.bd;omega
 rw[GL s t m D M];obtain⟨G,F⟩:=L.slot z hi;have j:=fun Y=>iE s.p s.c s.m t.at' t.i Y;rw[G]at j ⊢;have o:=fun Y (hY:oA Y p b m)=>nC p b m t.c (s.c+s.p+t.at'*16+t.i) 0 Y hY F (by decide) hs;generalize s.c+s.p+t.at'*16+t.i=pg at *;have X:=wrp (t.i+1);have n:t.i+1=16\/(¬ t.i+1=16/\(t.i+1==16)=false):=by
  by_cases h:t.i+1=16
  ·exact .inl h
  exact .inr ⟨h,by simpa using h⟩
 dsimp only;obtain⟨R,l,y⟩:∃ R:Ad,Hid (R=if t.i+1=16 then {t with i:=t.i+1,next:=8} else {t with i:=t.i+1})/\R=_:=⟨_,hd' rfl,rfl⟩;rw[<-y];clear y G F L C hi;obtain⟨sp,sc,sm⟩:=s;obtain⟨tc,td,tn,tw,b2,ta,ti,pk,pa,pb,V,S⟩:=t;dsimp only at D M z j o l n X ⊢;subst D M;replace j:=hd' j;replace o:=hd' o;replace n:=hd' n;have lq:=h0.lt;have b0:=h0.cell;clear z;go_in;go_upto_region 21 with fail;refine wret 18 ?_;repeat (go_big_quiet_step (((go_at_call 122;exact xA (j _)))))
 refine wqn fun Z J=>?_;have U:=h0.below J;clear lq h0;go_upto_region 23 with(first|(go_at_call 226;(with_reducible refine(o _ U.wds).mono ?_);rintro r w2 ⟨rfl,O,N⟩;have H:=U.access O N;have b1:=H.cell;have zf:=H.free));have I:=H.set 9 (.int .i64 (ti+1));rcases n.out with h1|⟨h1,h2⟩
 ·replace l:=hd' (l.out.trans (jP h1));rw[h1]at l I X;simp only[h1];clear n h1;go_wp2_with fail;go_returns;exact⟨rfl,by rw[l];exact I.set 5 _⟩
 replace l:=hd' (l.out.trans (jN h1));clear n h1;go_wp2_with fail;go_returns;exact⟨rfl,by rw[l];exact I⟩
theorem iY(q p b:Nat)(s:Sh)(t:Ad)(m:Mem)(w:World)(h0:At3 q p b w w (EA s t) 256 m)(H:Fits s m)(hs:m.st<1000000000)(y:t.done=false)(I:t.next=8)(o:0<=t.at'/\t.at'<s.p):
  Calls Tryz.prog 265 #[some q,some p] w fun e w'=>e= .returned (.tuple #[])/\At3 q p b w w' (EA s (GA s t m).1) 256 (GA s t m).2:=by
 have j:0<=t.at'/\t.at'<64:=by have:=H.bd;omega
 rw[KL s t m y I];obtain⟨C,z⟩:=H.page o;have i:=fun Y=>DB s.p s.c s.m t.at' Y;rw[C]at i ⊢;have n:=fun Y (F:oA Y p b m)=>nC p b m t.c (s.c+t.at') 0 Y F z (by decide) hs;have l:=fun Y (F:aA Y q (EA s t) 256)=>CH q s t 6 9 Y F j;generalize s.c+t.at'=pg at *;dsimp only;obtain⟨S,D⟩:∃ S,S=t.turn s 6 9:=⟨_,rfl⟩;rw[<-D]at l ⊢;clear D C z H j;obtain⟨sp,sc,sm⟩:=s;obtain⟨tc,td,tn,tw,b0,ta,ti,pk,pa,pb,U,M⟩:=t;dsimp only at y I o i n l ⊢;subst y I;replace i:=hd' i;replace n:=hd' n;replace l:=hd' l;have X:=h0.lt;have V:=h0.cell;clear o;go_in;go_upto_region 1 with fail;refine wret 14 ?_;repeat (go_big_quiet_step (((go_at_call 120;exact xA (i _)))))
 refine wqn fun Z G=>?_;have R:=h0.below G;clear X h0;go_wp2_with (first|(go_at_call 226;(with_reducible refine(n _ R.wds).mono ?_);rintro r w2 ⟨rfl,L,J⟩;have N:=R.access L J)|(go_at_call 269;(with_reducible refine(l _ N.row).mono ?_);rintro r w3 O;obtain rfl:=O.ret));go_returns;exact⟨rfl,N.turned O⟩
end

section

open Go.RowKit

structure Fr where
 code:Int
 pc:Int
 regs:List Int
 deriving DecidableEq
def Fr.cells (f:Fr):List Value:= .int .i64 f.code:: .int .i64 f.pc::f.regs.map (.int .i64)
def flat (fs:List Fr):List Value:=fs.flatMap Fr.cells
def FG (fs:List Fr):Prop:=∀ f ∈ fs,f.regs.length=8
theorem JU{fs:List Fr}(h:FG fs):(flat fs).length=fs.length*10:=by
 induction fs with
 |nil=>rfl;|cons f fs i=>have h1:=h f (by simp);have h2:=i (fun g b=>h g (by simp[b]));simp only[flat,List.flatMap_cons,List.length_append]at h2 ⊢;simp only[Fr.cells,List.length_cons,List.length_map,h1,h2];omega
theorem QO(fs:List Fr)(f:Fr):flat (fs++[f])=flat fs++f.cells:=by simp[flat]
theorem flat_get{fs:List Fr}(h:FG fs)(i j:Nat)(hi:i<fs.length)(n:j<10):(flat fs)[i*10+j]?=(fs[i].cells)[j]?:=by
 induction fs generalizing i with
 |nil=>simp at hi
 |cons f fs m=>
  have h1:=h f (by simp)
  have l:f.cells.length=10:=by simp[Fr.cells,h1]
  have h2:FG fs:=fun g b=>h g (by simp[b])
  show (f.cells++flat fs)[i*10+j]?=_
  cases i with
  |zero=>rw[List.getElem?_append_left (by omega)];simp
  |succ i=>
   rw[List.getElem?_append_right (by omega),l,show (i+1)*10+j-10=i*10+j from by omega]
   simpa using m h2 i (by simpa using hi)
structure Stk (T E:TypeId) (B:Nat) (w:World) (s:Nat) (sl:Value) (most:Int) (fs:List Fr):Prop where
 lies:B<=s
 head:w.heap[s]?=some (.cells #[sl,most] T (0,0))
 owns:w.ownsRow B E 10 sl fs.length (flat fs)
 apart:sl.ownBlock≠some s
 regs:FG fs
def RV:Value:= .agg #[.int .i64 0,.int .i64 0,.int .i64 0,.int .i64 0,.int .i64 0,.int .i64 0,.int .i64 0,.int .i64 0,.int .i64 0,.int .i64 0]
def zZ:Fr:=⟨0,0, [0,0,0,0,0,0,0,0]⟩
def rG (fs:List Fr):Fr:=fs.getLast?.getD zZ
def Fr.put (f:Fr) (j:Nat) (x:Int):Fr:=if j=0 then { f with code:=x } else if j=1 then { f with pc:=x } else { f with regs:=f.regs.set (j - 2) x }
theorem Fr.z2m(f:Fr)(j:Nat)(x:Int):(f.put j x).cells=f.cells.set j (.int .i64 x):=by
 unfold Fr.put;match j with
 |0=>simp[Fr.cells]
 |1=>simp[Fr.cells]
 |j+2=>simp[Fr.cells,List.map_set]
theorem Fr.z5d(f:Fr)(j:Nat)(x:Int):(f.put j x).regs.length=f.regs.length:=by
 unfold Fr.put;split
 ·rfl
 split<;>simp
def eH (fs:List Fr) (j:Nat) (x:Int):List Fr:=fs.dropLast ++ [(rG fs).put j x]
theorem zod{fs:List Fr}(h:fs.length≠0)(j:Nat)(x:Int):(eH fs j x).length=fs.length:=by simp[eH];omega
theorem zx2{fs:List Fr}(h:fs.length≠0):fs=fs.dropLast++[rG fs]:=by
 have b:fs≠ []:=fun e=>h (by simp[e]);have:rG fs=fs.getLast b:=by simp[rG,List.getLast?_eq_some_getLast b]
 rw[this];exact(List.dropLast_concat_getLast b).symm
section

variable {T E:TypeId} {B:Nat} {w w':World} {s:Nat} {sl:Value} {most:Int} {fs:List Fr}

theorem Stk.lt(h:Stk T E B w s sl most fs):s<w.heap.size:=(jE h.head)
theorem Stk.pE(h:Stk T E B w s sl most fs):∀ k,sl.ownBlock=some k->B<=k/\k<w.heap.size:=h.owns.lt
theorem Stk.cell0(h:Stk T E B w s sl most fs):w.cell? ⟨s,0,.none⟩=some sl:=by simpa using cell_of_row w s 0 _ T (0,0) h.head
theorem Stk.cell1(h:Stk T E B w s sl most fs):w.cell? ⟨s,1,.none⟩=some (.int .i64 most):=by simpa using cell_of_row w s 1 _ T (0,0) h.head
theorem Stk.blocks(h:Stk T E B w s sl most fs)(hb:∀ k,foot s sl k->w'.heap[k]?=w.heap[k]?):Stk T E B w' s sl most fs:=
 ⟨h.lies,by rw[hb s (.inl rfl)];exact h.head,PB h.owns (fun k b=>hb k (.inr b)),h.apart,h.regs⟩
theorem Stk.below(h:Stk T E B w s sl most fs)(hb:Below w.heap.size w w'):Stk T E B w' s sl most fs:=
 h.blocks fun k b=>hb.block k (by rcases b with rfl|b;exact h.lt;exact(h.pE k b).2)
theorem Stk.form(h:Stk T E B w s sl most fs):(sl= .slice none 0 0/\fs= [])\/∃ g cap,sl= .slice (some ⟨g,0,.none⟩) fs.length cap/\fs.length<=cap/\g<w.heap.size/\g≠s/\B<=g/\(fs.length:Int)<=9223372036854775807/\
  ∀ i j,(hi:i<fs.length)->j<10->w.cell? ⟨g,i*10+j,.none⟩=(fs[i].cells)[j]?:=by
 rcases h.owns.2 with⟨h1,h2⟩|⟨g,cap,b,rfl,h1,h2,h3,h4,m,f⟩
 ·exact .inl ⟨h1,List.eq_nil_of_length_eq_zero h2⟩
 refine .inr ⟨g,cap,rfl,h3,(jE h2),fun e=>h.apart (by rw[e];rfl),h1,by simp only[maxLen]at h4;omega,fun i j hi l=>?_⟩;rw[cell_of_row w g _ b E (0,0) h2,<- flat_get h.regs i j hi l,<- f,List.getElem?_take,jP (by omega)];simp
theorem Only.stk{F:Nat->Prop}(i:Only F w w')(h:Stk T E B w s sl most fs)(f:∀ k,foot s sl k->¬ F k):Stk T E B w' s sl most fs:=
 h.blocks fun k b=>i.block k (by rcases b with rfl|b;exact h.lt;exact(h.pE k b).2) (f k b)
theorem zve{g cap j:Nat}{x:Int}(h:Stk T E B w s (.slice (some ⟨g,0,.none⟩) fs.length cap) most fs)(h0:fs.length≠0)(L:j<10):
  Stk T E B (w.setCell ⟨g,(fs.length-1)*10+j,.none⟩ (.int .i64 x)) s (.slice (some ⟨g,0,.none⟩) fs.length cap) most (eH fs j x):=by
 obtain⟨h1,h2,h3,h4,q⟩:=h;have r:s≠g:=fun e=>h4 (by rw[e];rfl);have e:=zx2 h0;have i:FG (eH fs j x):=by
  intro f l;rcases List.mem_append.1 l with l|l
  ·exact q f (List.dropLast_subset _ l)
  rw[List.mem_singleton.1 l,Fr.z5d];have z:rG fs ∈ fs.dropLast++[rG fs]:=by simp
  rw[<-e]at z;exact q _ z
 have t:FG fs.dropLast:=fun f l=>q f (List.dropLast_subset _ l);have y:=JU t;rw[List.length_dropLast]at y;have m:flat (eH fs j x)=(flat fs).set ((fs.length-1)*10+j) (.int .i64 x):=by
  have D:flat fs=flat fs.dropLast++(rG fs).cells:=by rw[<-QO,<- e]
  rw[eH,QO,Fr.z2m,D,List.set_append_right _ _ (by omega),y];congr 2;omega
 refine⟨h1,by rw[heap_setCell_other _ _ _ _ r];exact h2,⟨by rw[JU i],.inr ?_⟩,h4,i⟩;rcases h3.2 with⟨h,_⟩|⟨C,n,p,F,k1,G,M,H,I,J⟩
 ·cases h
 obtain⟨rfl,rfl⟩:g=C/\cap=n:=by injection F with a _ b;injection a with a;injection a with a;exact⟨a,b⟩
 have o:=zod h0 j x;refine⟨g,cap,_,by rw[o],k1,heap_setCell_same w g _ p E _ G,by omega,H,by simpa using I,?_⟩;rw[o,m,<- J,Array.toList_setIfInBounds,List.take_set]
end

end

section

open Go.RowKit

abbrev SK:=Stk 194 197
theorem zxv(m:Int)(w:World):
  Calls Tryz.prog 97 #[m] w fun e w'=>e= .returned (.pointer (some ⟨w.heap.size,0,.none⟩))/\w'=w.alloc (.cells #[.slice none 0 0,.int .i64 (if m<0\/16<m then 0 else m)] 194):=by
 go_in;go_wp2;all_goals go_ret
 all_goals exact⟨rfl,rfl⟩
theorem TK{B:Nat}{w:World}{s:Nat}{sl:Value}{most:Int}{fs:List Fr}(h:SK B w s sl most fs):
  Calls Tryz.prog 102 #[some s] w fun e w'=>e= .returned (.int .i64 fs.length)/\w'=w:=by
 have c0:=h.cell0;have b:=h.form;rcases b with⟨rfl,rfl⟩|⟨g,cap,rfl,i,m,j,l,n,hc⟩
 ·clear h;go_in;go_wp2;all_goals go_ret
  all_goals exact⟨rfl,rfl⟩
 clear h hc;go_in;go_wp2;all_goals go_ret
 all_goals exact⟨rfl,rfl⟩
def HJ (sl:Value) (n:Nat):Option Addr:=match sl with
 | .slice (some a) _ _=> if n=0 then none else some ⟨a.block,(n - 1) * 10,.none⟩
 | _=> none
theorem zx5{B:Nat}{w:World}{s:Nat}{sl:Value}{most:Int}{fs:List Fr}(h:SK B w s sl most fs):
  Calls Tryz.prog 126 #[some s] w fun e w'=>e= .returned (.pointer (HJ sl fs.length))/\∃ n,w'=w.drewN n:=by
 have c0:=h.cell0;have b:=h.form;rcases b with⟨rfl,rfl⟩|⟨g,cap,rfl,i,p,l,o,q,hc⟩
 ·go_in;go_wp2_with (go_at_call 102;refine(TK h).mono ?_;rintro e j ⟨rfl,rfl⟩);all_goals go_ret
  all_goals exact⟨rfl,0,rfl⟩
 by_cases h0:fs.length=0
 ·have m:((fs.length:Int)==0)=true:=by simp[h0]
  go_in;go_wp2_with (go_at_call 102;refine(TK h).mono ?_;rintro e j ⟨rfl,rfl⟩);all_goals go_ret
  all_goals exact⟨by rw[HJ,jP h0];rfl,0,rfl⟩
 have m:((fs.length:Int)==0)=false:=by simpa using h0
 have r:(1:Int)<=(fs.length:Int):=by omega
 go_in;go_wp2_with (go_at_call 102;refine(TK h).mono ?_;rintro e j ⟨rfl,rfl⟩);go_quiet (fail);go_wp2;all_goals go_ret
 exact⟨by rw[HJ,jN h0];rfl,nq,rfl⟩
theorem zy6{B:Nat}{w:World}{s:Nat}{sl:Value}{most:Int}{fs:List Fr}(h:SK B w s sl most fs)(h0:fs.length≠0):
  ∃ g cap code pc r0 r1 l m n o p q,sl= .slice (some ⟨g,0,.none⟩) fs.length cap/\HJ sl fs.length=some ⟨g,(fs.length-1)*10,.none⟩/\g<w.heap.size/\g≠s/\B<=g/\rG fs=⟨code,pc, [r0,r1,l,m,n,o,p,q]⟩/\
   w.cell? ⟨g,(fs.length-1)*10,.none⟩=some (.int .i64 code)/\w.cell? ⟨g,(fs.length-1)*10+1,.none⟩=some (.int .i64 pc)/\
   w.cell? ⟨g,(fs.length-1)*10+2,.none⟩=some (.int .i64 r0)/\w.cell? ⟨g,(fs.length-1)*10+3,.none⟩=some (.int .i64 r1)/\
   w.cell? ⟨g,(fs.length-1)*10+4,.none⟩=some (.int .i64 l)/\w.cell? ⟨g,(fs.length-1)*10+5,.none⟩=some (.int .i64 m)/\
   w.cell? ⟨g,(fs.length-1)*10+6,.none⟩=some (.int .i64 n)/\w.cell? ⟨g,(fs.length-1)*10+7,.none⟩=some (.int .i64 o)/\
   w.cell? ⟨g,(fs.length-1)*10+8,.none⟩=some (.int .i64 p)/\w.cell? ⟨g,(fs.length-1)*10+9,.none⟩=some (.int .i64 q)/\fs.length<=cap/\(fs.length:Int)<=9223372036854775807:=by
 rcases h.form with⟨rfl,rfl⟩|⟨g,cap,rfl,i,D,r,z,F,hc⟩
 ·simp at h0
 have t:fs.length-1<fs.length:=by omega
 have y:=h.regs _ (List.getElem_mem t);have G:rG fs=fs[fs.length-1]:=by simp[rG,List.getLast?_eq_getElem?,t]
 rw[G];generalize C:fs[fs.length-1]=f at y;have b:=fun j=>hc (fs.length-1) j t;rw[C]at b;obtain⟨code,pc,regs⟩:=f;match regs,y with
 | [r0,r1,l,m,n,o,p,q],_=>exact⟨g,cap,code,pc,r0,r1,l,m,n,o,p,q,rfl,by rw[HJ,jN h0],D,r,z,rfl,b 0 (by omega),b 1 (by omega),b 2 (by omega),b 3 (by omega),b 4 (by omega),b 5 (by omega),b 6 (by omega),b 7 (by omega),b 8 (by omega),b 9 (by omega),i,F⟩
theorem NO{w:World}{b:Nat}{cs:Array Value}{t:TypeId}(h:w.heap[b]?=some (.cells cs t (0,0)))(i:Nat):w.frozen? ⟨b,i,.none⟩=false:=by
 simp[World.frozen?,h]
theorem zqq{B:Nat}{w:World}{s:Nat}{g cap n:Nat}{most:Int}{fs:List Fr}(h:SK B w s (.slice (some ⟨g,0,.none⟩) n cap) most fs)(_h0:fs.length≠0)(i:Nat):w.frozen? ⟨g,i,.none⟩=false:=by
 rcases h.owns.2 with⟨h1,_⟩|⟨l,f,j,m,k1,o,_⟩
 ·cases h1
 obtain rfl:g=l:=by injection m with a _ b;injection a with a;injection a with a
 exact NO o i
theorem zz4{B:Nat}{w:World}{s:Nat}{sl:Value}{most pc':Int}{fs:List Fr}(h:SK B w s sl most fs)(h0:fs.length≠0):
  Calls Tryz.prog 100 #[some s,pc'] w fun e w'=>e= .returned (.bool true)/\Only (foot s sl) w w'/\SK B w' s sl most (eH fs 1 pc'):=by
 obtain⟨g,cap,code,pc,r0,r1,r,t,y,z,C,D,rfl,i,o,l,n,q,_,c1,_,_,_,_,_,_,_,_,j,p⟩:=zy6 h h0;have b:=zx5 h;rw[i]at b;have m:=zqq h h0;clear i;go_in;go_wp2_with (go_at_call 126;refine b.mono ?_;rintro e F ⟨rfl,nq,rfl⟩);go_ret;exact⟨rfl,Only.setCell (Only.drewN (Only.refl _ _) nq) (.inl (.inr rfl)) _,(zve h h0 (by decide)).blocks fun k _=>rfl⟩
theorem zq6{B:Nat}{w:World}{s:Nat}{sl:Value}{most:Int}{fs:List Fr}(h:SK B w s sl most fs):
  Calls Tryz.prog 106 #[some s] w fun e w'=>e= .returned (.tuple #[])/\Only (foot s sl) w w'/\SK B w' s (.slice none 0 0) most []:=by
 have i:=h.cell0;have j:=NO h.head;go_in;go_wp2;go_end0;refine⟨rfl,Only.setCell (Only.refl _ _) (.inl (.inl rfl)) _,h.lies,?_,World.ownsRow_nil _ _ _ _,by simp[Value.ownBlock],fun f b=>by cases b⟩;rw[heap_setCell_same w s 0 _ _ _ h.head];rfl
theorem z0j:(Tryz.prog.info? 197).map (fun i=>(i.zero,i.size,i.bytes))=some (some RV,10,80):=by kernel_rfl
theorem z3g{T E:TypeId}{B:Nat}{w Y:World}{s:Nat}{sl:Value}{most:Int}{fs:List Fr}(h:Stk T E B w s sl most fs)(hb:Below w.heap.size w Y):Y.ownsRow B E 10 sl fs.length (flat fs):=
 PB h.owns fun k b=>hb.block k (h.pE k b).2
def padded (zs:List Int):List Int:=zs ++ List.replicate (8 - zs.length) 0
theorem dU{zs:List Int}(h:zs.length<=8):(padded zs).length=8:=by simp[padded];omega
theorem zqx(code:Int){zs:List Int}(h:zs.length<=8):splice [.int .i64 code,.int .i64 0,.int .i64 0,.int .i64 0,.int .i64 0,.int .i64 0,.int .i64 0,.int .i64 0,.int .i64 0,.int .i64 0] 2 (zs.map (.int .i64))=(Fr.mk code 0 (padded zs)).cells:=by
 match zs,h with
 | [],_=>rfl
 | [_],_=>rfl
 | [_,_],_=>rfl
 | [_,_,_],_=>rfl
 | [_,_,_,_],_=>rfl
 | [_,_,_,_,_],_=>rfl
 | [_,_,_,_,_,_],_=>rfl
 | [_,_,_,_,_,_,_],_=>rfl
 | [_,_,_,_,_,_,_,_],_=>rfl
theorem ygr{l:List Int}(h:l.length=8):∃ a b c d e f g i,l= [a,b,c,d,e,f,g,i]:=by
 match l,h with
 | [a,b,c,d,e,f,g,i],_=>exact⟨a,b,c,d,e,f,g,i,rfl⟩
theorem zu5{fs:List Fr}{f:Fr}(h:FG fs)(i:f.regs.length=8):FG (fs++[f]):=by
 intro x b;rcases List.mem_append.1 b with b|b
 ·exact h x b
 rw[List.mem_singleton.1 b];exact i
theorem z0y{T E:TypeId}{B s g b K H:Nat}{w p Y i:World}{sl:Value}{most:Int}{fs:List Fr}{f:Fr}(h2:Stk T E B p s sl most fs)(n:i.ownsRow B E 10 (.slice (some ⟨g,0,.none⟩) (fs.length+1) b) (fs.length+1) (flat fs++f.cells)) (y:Y.grownBy i sl.ownBlock) (q:Below p.heap.size p Y)(C:Only (foot s sl) w p) (j:sl.ownBlock=some g\/g=K) (t:sl.ownBlock=some g\/g=K->sl.ownBlock=some g\/(H<=g/\p.heap.size<=g)) (D:FG (fs++[f])):
  Only (foot s sl) w (i.setCell ⟨s,0,.none⟩ (.slice (some ⟨g,0,.none⟩) (fs.length+1) b))/\∃ o,(∀ k,o.ownBlock=some k->sl.ownBlock=some k\/H<=k)/\
   Stk T E B (i.setCell ⟨s,0,.none⟩ (.slice (some ⟨g,0,.none⟩) (fs.length+1) b)) s o most (fs++[f]):=by
 have hs:=h2.lt;have r:some s≠sl.ownBlock:=fun e=>h2.apart e.symm;have z:i.heap[s]?=some (.cells #[sl,most] T (0,0)):=(y.block s (by have:=q.size;omega) r).trans ((q.block s hs).trans h2.head);have l:g≠s:=by
  rcases t j with h|⟨_,h⟩
  ·intro e;exact h2.apart (by rw[h,e])
  omega
 refine⟨Only.setCell (Only.grown (C.trans (Only.of_below (F:=fun _=>False) q) fun _ _ h=>h.elim) y fun k m=>.inl (.inr m)) (.inl (.inl rfl)) _,.slice (some ⟨g,0,.none⟩) (fs.length+1) b,?_,h2.lies,?_,?_,?_,D⟩
 ·intro k m;obtain rfl:g=k:=by injection m
  rcases t j with h|h
  ·exact .inl h
  exact .inr h.1
 ·rw[heap_setCell_same i s 0 _ T _ z];rfl
 ·have e:(fs++[f]).length=fs.length+1:=by simp
  rw[e,QO];exact PB n fun k m=>by
   obtain rfl:g=k:=by injection m
   exact heap_setCell_other _ _ _ _ l
 intro e;exact l (by injection e)
theorem zt0{B:Nat}{w:World}{s:Nat}{sl:Value}{most code:Int}{fs:List Fr}{ao:Option Addr}{zs:List Int}{cap:Nat}(h:SK B w s sl most fs)(h1:fs.length<most)(hz:zs.length<=8)(hB:B<=w.heap.size)(hm:most<=100000)(hc:∀ a,ao=some a->∀ j v,(zs.map (Value.int .i64))[j]?=some v->w.cell? (a.add j)=some v) (hn:ao=none->zs= []):
  Calls Tryz.prog 66 #[some s,code,.slice ao zs.length cap] w fun e w'=>e= .returned (.bool true)/\Only (foot s sl) w w'/\
   ∃ m,(∀ k,m.ownBlock=some k->sl.ownBlock=some k\/w.heap.size<=k)/\SK B w' s m most (fs++[⟨code,0,padded zs⟩]):=by
 have c0:=h.cell0;have c1:=h.cell1;have b8:∃ a c,sl= .slice a fs.length c:=by
  rcases h.form with⟨rfl,rfl⟩|⟨g,cap,rfl,_⟩
  ·exact⟨_,_,rfl⟩
  exact⟨_,_,rfl⟩
 obtain⟨a,c,rfl⟩:=b8;have h3:decide (most<=(fs.length:Int))=false:=by simp;omega
 have h4:decide ((8:Int)<(zs.length:Int))=false:=by simp;omega
 go_in;go_wp2_with fail;go_quiet (fail);have N:SK B (w.drewN nq) s (.slice a fs.length c) most fs:=h.blocks fun _ _=>rfl;have U:∀ a,ao=some a->∀ j v,(zs.map (Value.int .i64))[j]?=some v->(w.drewN nq).cell? (a.add j)=some v:=hc;have ho:Only (foot s (.slice a fs.length c)) w (w.drewN nq):=Only.drewN (Only.refl _ _) nq;have y:(w.drewN nq).heap.size=w.heap.size:=rfl;generalize w.drewN nq=W at *;clear c0 c1 hc h;have c0:=N.cell0;have bk:=N.lt;go_upto_region 4 with fail;have hu:=Tryz.underlying191;have k1:(W.alloc (.cells #[code,.int .i64 0,.int .i64 0,.int .i64 0,.int .i64 0,.int .i64 0,.int .i64 0,.int .i64 0,.int .i64 0,.int .i64 0] 197)).heap[w.heap.size]?=some (.cells #[code,.int .i64 0,.int .i64 0,.int .i64 0,.int .i64 0,.int .i64 0,.int .i64 0,.int .i64 0,.int .i64 0,.int .i64 0] 197 (0,0)):=by rw[<-y];exact jA W _
 have k2:(zs.map (Value.int .i64)).length=Nat.min zs.length 8:=by rw[List.length_map];exact(Nat.min_eq_left hz).symm
 have k3:0<(zs.map (Value.int .i64)).length->(some (⟨w.heap.size,2,.none⟩:Addr))=some ⟨w.heap.size,2,.none⟩/\∃ ad,ao=some ad/\∀ j v,(zs.map (Value.int .i64))[j]?=some v->(W.alloc (.cells #[code,.int .i64 0,.int .i64 0,.int .i64 0,.int .i64 0,.int .i64 0,.int .i64 0,.int .i64 0,.int .i64 0,.int .i64 0] 197)).cell? (ad.add j)=some v:=by
  intro hp
  refine⟨rfl,?_⟩
  cases ao with
  |none=>rw[hn rfl]at hp;simp at hp
  |some ad=>exact⟨ad,rfl,fun j v hv=>(World.grownBy_alloc W _ none).cell (U ad rfl j v hv) (by simp)⟩
 have k4:2+(zs.map (Value.int .i64)).length<=([Value.int .i64 code,.int .i64 0,.int .i64 0,.int .i64 0,.int .i64 0,.int .i64 0,.int .i64 0,.int .i64 0,.int .i64 0,.int .i64 0]:List Value).length:=by simp;omega
 have k5:∀ v ∈ zs.map (Value.int .i64),v.oneCell'=true:=by intro v hv;obtain⟨x,_,rfl⟩:=List.mem_map.1 hv;rfl
 have k6:Below W.heap.size W (W.alloc (.cells #[code,.int .i64 0,.int .i64 0,.int .i64 0,.int .i64 0,.int .i64 0,.int .i64 0,.int .i64 0,.int .i64 0,.int .i64 0] 197)):=br.alloc lr _;go_wp2_with (refine wpList_copy_splice rfl (.tmp 30) (.tmp 31) 191 191 rfl 2 hu (by kernel_rfl) (some ⟨w.heap.size,2,.none⟩) ao 8 8 zs.length cap rfl rfl w.heap.size 2 [.int .i64 code,.int .i64 0,.int .i64 0,.int .i64 0,.int .i64 0,.int .i64 0,.int .i64 0,.int .i64 0,.int .i64 0,.int .i64 0] 197 k1 (zs.map (.int .i64)) k2 k3 k4 k5 W.heap.size W k6 (Nat.le_of_eq y) ?_;intro q hH S);have o:=hH.out;rw[zqx code hz]at o;obtain⟨z,C,D,G,I,J,L,M,he⟩:=ygr (dU hz);rw[he]at o;have hh:=fun i=>cell_of_row q w.heap.size i _ _ (0,0) o;simp only[Fr.cells,List.map_cons,List.map_nil]at hh o;have h2:=N.below S;have b4:=ho.trans (Only.of_below (F:=fun _=>False) S) (fun _ _ h=>h.elim);have bm:s≠w.heap.size:=by omega
 have bj:W.heap.size<q.heap.size:=(jE (y ▸ o));clear k1 k2 k3 k4 k5 k6 hH U hn ho hu;have ba:=Tryz.underlying192;obtain⟨i0,hi,bb,bc,bf⟩:=info_parts z0j;have c2:=h2.cell0;have b0:=NO h2.head 0;have bi:=h2.pE;have b5:=N.pE;have Y:some s≠(Value.slice a fs.length c).ownBlock:=fun e=>h2.apart e.symm;have b:some w.heap.size≠(Value.slice a fs.length c).ownBlock:=fun e=>by have:=(b5 _ e.symm).2;omega
 have b1:B<=q.heap.size:=by omega
 have b6:s<q.heap.size:=h2.lt;have V:∀ u ∈ ([.int .i64 code,.int .i64 0,.int .i64 z,.int .i64 C,.int .i64 D,.int .i64 G,.int .i64 I,.int .i64 J,.int .i64 L,.int .i64 M]:List Value),u.oneCell'=true:=by intro u hu;simp at hu;rcases hu with rfl|rfl|rfl|rfl|rfl|rfl|rfl|rfl|rfl|rfl<;>rfl
 have b2:(fs.length+1)*80<=140737488355328:=by omega
 have b3:fs.length+1<=maxLen:=by simp only[maxLen];omega
 generalize hH:w.heap.size=H at *;have g0:∀ i,q.cell? ⟨H,i,.none⟩=(#[code,.int .i64 0,z,C,D,G,I,J,L,M]:Array Value)[i]?:=hh;clear hh N h3 h4;have hS:∀ w',jW q w'->w'.cell? ⟨s,0,.none⟩=some (.slice a fs.length c)/\w'.frozen? ⟨s,0,.none⟩=false/\w'.cell? ⟨H,0,.none⟩=some (.int .i64 code)/\w'.cell? ⟨H,1,.none⟩=some (.int .i64 0)/\w'.cell? ⟨H,2,.none⟩=some (.int .i64 z)/\w'.cell? ⟨H,3,.none⟩=some (.int .i64 C)/\w'.cell? ⟨H,4,.none⟩=some (.int .i64 D)/\w'.cell? ⟨H,5,.none⟩=some (.int .i64 G)/\w'.cell? ⟨H,6,.none⟩=some (.int .i64 I)/\w'.cell? ⟨H,7,.none⟩=some (.int .i64 J)/\w'.cell? ⟨H,8,.none⟩=some (.int .i64 L)/\w'.cell? ⟨H,9,.none⟩=some (.int .i64 M):=by intro w' hb;have kk:=kA hb;refine⟨kk _ _ _ c2,(hb.frozen (p:=⟨s,0,.none⟩) b6).trans b0,?_⟩;(repeat' apply And.intro)<;>exact kk _ _ _ (g0 _)
 have O:∀ Z w',jW q Z->Z.grownBy w' (Value.slice a fs.length c).ownBlock->w'.cell? ⟨s,0,.none⟩=some (.slice a fs.length c)/\w'.frozen? ⟨s,0,.none⟩=false/\w'.cell? ⟨H,0,.none⟩=some (.int .i64 code)/\w'.cell? ⟨H,1,.none⟩=some (.int .i64 0)/\w'.cell? ⟨H,2,.none⟩=some (.int .i64 z)/\w'.cell? ⟨H,3,.none⟩=some (.int .i64 C)/\w'.cell? ⟨H,4,.none⟩=some (.int .i64 D)/\w'.cell? ⟨H,5,.none⟩=some (.int .i64 G)/\w'.cell? ⟨H,6,.none⟩=some (.int .i64 I)/\w'.cell? ⟨H,7,.none⟩=some (.int .i64 J)/\w'.cell? ⟨H,8,.none⟩=some (.int .i64 L)/\w'.cell? ⟨H,9,.none⟩=some (.int .i64 M):=by
  intro Z w' hb n;have h:=hS Z hb;have b7:s<Z.heap.size:=by have:=hb.size;omega
  refine⟨n.cell h.1 Y,(World.frozen?_of_block (n.block s b7 Y)).trans h.2.1,?_⟩;obtain⟨_,_,h0,h1,h2,h3,h4,h5,h6,h7,h8,h9⟩:=h;exact⟨n.cell h0 b,n.cell h1 b,n.cell h2 b,n.cell h3 b,n.cell h4 b,n.cell h5 b,n.cell h6 b,n.cell h7 b,n.cell h8 b,n.cell h9 b⟩
 go_cut [] (fun wx=>Only (foot s (.slice a fs.length c)) w wx/\∃ m,(∀ k,m.ownBlock=some k->(Value.slice a fs.length c).ownBlock=some k\/H<=k)/\SK B wx s m most (fs++[⟨code,0,padded zs⟩]));case first=>
  go_region_law
   (first|(refine step_append_lies _ rfl (.tmp 37) (.tmp 39) 192 rfl B 197 i0 RV 10 80 ba hi bb bc bf rfl (by decide) (.slice a fs.length c) fs.length (flat fs) rfl (z3g h2 (by go_grown)) ⟨q.heap.size,0,.none⟩ 1 1 [.int .i64 code,.int .i64 0,.int .i64 z,.int .i64 C,.int .i64 D,.int .i64 G,.int .i64 I,.int .i64 J,.int .i64 L,.int .i64 M] rfl rfl (World.news_of_block (by exact jA q _)) V (by decide) b3 b2 (Nat.le_trans b1 (Below.size (B:=0) (by go_grown))) _ rfl ?_;intro g bg w3 r l R bh;have q1:=(O _ _ (by go_grown) l).1;have q2:=(O _ _ (by go_grown) l).2.1))
  all_goals go_wp2_with fail
  all_goals go_meet;case rel=>refine z0y h2 (he ▸ r) l ?_ b4 R (fun k=>by rcases k with k|k;exact .inl k;right;rw[k];simp;omega) (zu5 h2.regs (dU hz));go_grown
 case rest=>obtain⟨hw,m,X,b9⟩:=hcut;go_wp2_with fail;go_ret;exact⟨rfl,hw,m,by rw[hH];exact X,b9⟩
end

end Go.Proofs.YtmmbicppdjgbmaaGreat

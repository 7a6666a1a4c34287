/- Lemmas for the claim. -/
import Derived.Test.YtkilokkopbajkaaGreatBw20

set_option linter.all false
set_option maxHeartbeats 2000000
set_option maxRecDepth 100000
namespace Go.Proofs.YtkilokkopbajkaaGreat

attribute [local go_sem] DA

section

open Go.RowKit

attribute [local go_sem ↓] Go.wp_at_zero Go.wp_at_succ

theorem LV(q:Nat)(s:Sh)(t:Ad)(k a b:Int)(ok:Bool)(w:World)(o:aA w q (DA s t) 252):
  Calls Tryz.prog 262 #[some q,.agg #[k,a,b],ok] w fun e w'=>e= .returned (.bool (ok&&(k==1&&a==t.d)))/\Below w.heap.size w w':=by
 have h0:=o;clear o;obtain⟨sp,F,G⟩:=s;obtain⟨J,L,N,O,B,I,M,pk,pa,pb,p,n⟩:=t;dsimp only;have i:=(Below.refl w.heap.size w).alloc lr (.cells #[k,a,b] 136);have t0:=jA w (.cells #[k,a,b] 136);have E:=h0.lt;go_in;go_upto_region 1 with fail;generalize w.alloc (.cells #[k,a,b] 136)=W at *;have h1:=h0.below i;obtain⟨H,C,m⟩:=hidv w.heap.size;rw[<-m]at t0 ⊢;have D:H<W.heap.size:=(jE t0);have r:=kA t0;have y:=h1.cell;have z:=h1.lt;clear m t0 h0;rcases(by cases ok<;>simp:ok=false\/ok=true) with rfl|rfl;case inr=>
  rcases(by by_cases h:k=1<;>simp[h]:k=1\/(k==1)=false) with rfl|hk;all_goals
   refine wre ?_;repeat (go_big_quiet_step (fail))
   refine wqn fun X l=>?_;have j:=l;go_wp2_with fail;go_returns
  ·exact⟨by simp,xA i j⟩
  exact⟨by simp[hk],xA i j⟩
 case inl=>
  refine wre ?_;repeat (go_big_quiet_step (fail))
  refine wqn fun X l=>?_;have j:=l;go_wp2_with fail;go_returns;exact⟨by simp,xA i j⟩
theorem qL(q p b:Nat)(s:Sh)(t:Ad)(m:Mem)(a:Int)(w:World)(h0:At3 q p b w w (DA s t) 252 m)(T:Fits s m)(hs:m.st<1000000000)(ha:0<=a/\a<s.p):
  Calls Tryz.prog 260 #[some q,some p,a] w fun e w'=>e= .returned (.tuple #[.agg #[.int .i64 (pgK s a (m.get (pA s.p s.c s.m a))),.int .i64 (pgP s a (m.get (pA s.p s.c s.m a)) 0),.int .i64 (pgP s a (m.get (pA s.p s.c s.m a)) 1)],.bool (MA s.p s.c s.m a (m.get (pA s.p s.c s.m a)))])/\At3 q p b w w' (DA s t) 252 (m.load t.c (pA s.p s.c s.m a)):=by
 obtain⟨N,L⟩:=T.page ha;have j:=fun Y=>EB s.p s.c s.m a Y;rw[N]at j ⊢;have z:=fun Y (hY:oA Y p b m)=>fF p b m t.c (s.c+a) Y hY L hs;have C:=fun Y=>xJ s a (m.get (s.c+a)) Y (Mem.kF h0.wds.fit _);clear N L T ha;generalize s.c+a=R at *;generalize m.get R=x at *;generalize MA s.p s.c s.m a x=B at *;generalize pgK s a x=Z at *;generalize pgP s a x 0=e1 at *;generalize pgP s a x 1=S at *;obtain⟨sp,sc,sm⟩:=s;obtain⟨U,td,tn,tw,F,ta,ti,pk,pa,pb,n,l⟩:=t;dsimp only at j z C ⊢;replace j:=hd' j;replace z:=hd' z;replace C:=hd' C;have t0:=jA w (.cells #[.int .i64 0,.int .i64 0,.int .i64 0] 136);have G:=h0.alloc (.cells #[.int .i64 0,.int .i64 0,.int .i64 0] 136);go_in;go_upto_region 1 with fail;generalize w.alloc (.cells #[.int .i64 0,.int .i64 0,.int .i64 0] 136)=X at *;obtain⟨H,hH,I⟩:=hidv w.heap.size;rw[<-I]at t0 ⊢;have E:w.heap.size<=H:=by omega
 clear I;have b4:H≠q:=fun e=>by have:=h0.lt;omega
 have b0:H≠p:=fun e=>by have:=h0.wds.ltp;omega
 have b3:H≠b:=fun e=>by have:=h0.wds.ltb;omega
 have D:aA X H #[.int .i64 0,.int .i64 0,.int .i64 0] 136:=t0;clear t0;have lX:=G.lt
 refine ziv 20 (p:= { dst:=none,op:=Op.store 136 (Operand.tmp 6) (Operand.tmp 26),type:=0,pos:=_,after:=_,guard:=none}) (q:= { dst:=some 7,op:=Op.assign (Operand.tmp 27),type:=_,pos:=_,after:=_,guard:=none}) (x:=KA 4) (ld:=16) (v:= .int .u64 x) (ts:= [13,17,23])
  (K0:=fun Y=>At3 q p b w Y (DA ⟨sp,sc,sm⟩ ⟨U,td,tn,tw,F,ta,ti,pk,pa,pb,n,l⟩) 252 m/\aA Y H #[.int .i64 0,.int .i64 0,.int .i64 0] 136) (K1:=fun Y=>At3 q p b w Y (DA ⟨sp,sc,sm⟩ ⟨U,td,tn,tw,F,ta,ti,pk,pa,pb,n,l⟩) 252 (m.load U R)/\aA Y H #[.int .i64 0,.int .i64 0,.int .i64 0] 136)
  (by kernel_rfl) rfl (by kernel_rfl) (by kernel_rfl) (by simp only[List.take,KA,GD,MC,nopO,nopC,Nat.reduceBEq,Bool.or_false,Bool.or_true,Bool.false_eq_true,↓reduceIte,Nat.reduceAdd];exact rfl) (by kernel_rfl) (by kernel_rfl) (by kernel_rfl) (by simp[KA]) (by simp[KA]) (by simp[KA]) (by simp[KA]) (by kernel_rfl) (by simp[KA]) (by simp[KA])
  ⟨⟨fun Y Y' h1 h2 h3=>⟨h1.1.far h2 h3 G.only.size,h1.2.only h3 (by have:=D.lt;omega)⟩⟩,⟨fun Y Y' h1 h2 h3=>⟨h1.1.far h2 h3 G.only.size,h1.2.only h3 (by have:=D.lt;omega)⟩⟩⟩ ⟨G.drew,D.drew⟩ ?_
 apply Exists.intro;refine⟨fun B hb hs=>?_,fun h=>(by simp[KA]at h),fun Q0=>?_,?_⟩;case refine_1=>
  have O:aA B q (DA ⟨sp,sc,sm⟩ ⟨U,td,tn,tw,F,ta,ti,pk,pa,pb,n,l⟩) 252:=hb.elim (fun h=>h.1.row) (fun h=>h.1.row);have lB:=O.lt;have b2:=O.cell;repeat (go_big_quiet_step ((first|(go_at_call 112;exact AA (j _))|(go_at_call 111;exact AA (C _)))))
  exact wpQuiet_nil rfl
 case refine_2=>exact gF rfl (fun _ _=>by simp[go_sem]) fun Y o hs=>(z Y o.1.wds).mono fun r Y' ⟨h1,h2,h3⟩=>⟨h1,⟨o.1.load h2 h3,o.2.only h3 b0⟩,h3.weak fun k hk=>hk ▸ Nat.lt_of_lt_of_le o.1.ls.2.1 G.only.size⟩
 case refine_3=>intro a w4 M T;obtain⟨rfl,b1,⟨J,y⟩,_⟩:=T;obtain⟨z0,z1,z2⟩:=ci3 0 0 0 y.cell;have zf:∀ i,w4.frozen? ⟨H,i,.none⟩=false:=fun i=>GA y i;have hB:=((J.new E 0 (.int .i64 Z)).new E 1 (.int .i64 e1)).new E 2 (.int .i64 S);have hR:=((y.set 0 (.int .i64 Z)).set 1 (.int .i64 e1)).set 2 (.int .i64 S);simp only[KA,vput,List.take,List.size_toArray,List.length_cons,List.length_nil,Nat.reduceAdd,Nat.reduceLT,decide_false,Bool.false_eq_true,if_false];clear J y G h0;go_wp2;generalize World.setCell _ ⟨H,2,.none⟩ (.int .i64 S)=V at *;clear z0 z1 z2 zf;obtain⟨z0,z1,z2⟩:=ci3 Z e1 S hR.cell;refine bodyPost_ret (by simp[results,Tryz.results260,go_sem,z0,z1,z2];try rfl) rfl ?_;exact⟨rfl,hB⟩
def Ad.asked (s:Sh) (t:Ad) (x:Int):Ad:=
 if QD x=2 then { t with was:=x,next:=2 }
 else if QD x≠3 then ({ t with was:=x }:Ad).fin 5
 else if zA s.p s.c s.m (oD x) < 0 then ({ t with was:=x }:Ad).fin 4
 else { t with was:=x,who:=oD x,next:=1 }
theorem z3b(q p b:Nat)(s:Sh)(t:Ad)(m:Mem)(w:World)(h0:At3 q p b w w (DA s t) 252 m)(X:Fits s m)(hs:m.st<1000000000)(hd:0<=t.d/\t.d<s.c):
  Calls Tryz.prog 259 #[some q,some p] w fun e w'=>e= .returned (.tuple #[])/\At3 q p b w w' (DA s (t.asked s (m.get (zA s.p s.c s.m t.d)))) 252 (m.load t.c (zA s.p s.c s.m t.d)):=by
 obtain⟨U,T⟩:=X.status hd;have y:=fun Y=>kC s.p s.c s.m t.d Y;rw[U]at y ⊢;have D:=fun Y (hY:oA Y p b m)=>fF p b m t.c t.d Y hY T hs;have z:=fun Y=>rs2 (m.get t.d) Y (Mem.kF h0.wds.fit _);generalize m.get t.d=x at *;have n:=fun Y=>kC s.p s.c s.m (oD x) Y;have j:=fun e Y (hY:aA Y q (DA s {t with was:=x}) 252)=>BJ q s {t with was:=x} e Y hY;clear U T X hd;unfold Ad.asked;obtain⟨t2,i,G⟩:∃ t2:Ad,Hid (t2=if QD x=2 then {t with was:=x,next:=2} else if QD x≠3 then({t with was:=x}:Ad).fin 5 else if zA s.p s.c s.m (oD x)<0 then({t with was:=x}:Ad).fin 4 else {t with was:=x,who:=oD x,next:=1})/\t2=_:=⟨_,hd' rfl,rfl⟩;rw[<-G];clear G;generalize QD x=k at *;generalize oD x=A at *;generalize zA s.p s.c s.m A=Z at *;obtain⟨sp,sc,sm⟩:=s;obtain⟨tc,td,tn,tw,L,ta,ti,pk,pa,pb,E,o⟩:=t;dsimp only at y D n j i ⊢;replace y:=hd' y;replace D:=hd' D;replace z:=hd' z;replace n:=hd' n;replace j:=hd' j;have b1:k=2\/((k==2)=false/\(k==3)=false)\/(k=3/\Z<0)\/(k=3/\¬ Z<0):=by
  by_cases h1:k=2
  ·exact .inl h1
  by_cases h2:k=3
  ·by_cases h3:Z<0
   ·exact .inr (.inr (.inl ⟨h2,h3⟩))
   exact .inr (.inr (.inr ⟨h2,h3⟩))
  exact .inr (.inl ⟨by simpa using h1,by simpa using h2⟩)
 have R:=h0;clear h0;have lw:=R.lt;go_in;go_upto_region 0 with fail
 refine UK 18 (last:= { dst:=none,op:=Op.store 118 (Operand.tmp 23) (Operand.tmp 21),type:=0,pos:=_,after:=_,guard:=none}) (x:=KA 2) (ld:=15) (v:= .int .u64 x) (ts:= [7,11,20])
  (K0:=fun Y=>At3 q p b w Y (DA ⟨sp,sc,sm⟩ ⟨tc,td,tn,tw,L,ta,ti,pk,pa,pb,E,o⟩) 252 m) (K1:=fun Y=>At3 q p b w Y (DA ⟨sp,sc,sm⟩ ⟨tc,td,tn,tw,L,ta,ti,pk,pa,pb,E,o⟩) 252 (m.load tc td))
  (by kernel_rfl) rfl (by kernel_rfl) (by simp only[List.take,KA,GD,MC,nopO,nopC,Nat.reduceBEq,Bool.or_false,Bool.or_true,Bool.false_eq_true,↓reduceIte,Nat.reduceAdd];exact rfl) (by kernel_rfl) (by kernel_rfl) (by kernel_rfl) (by simp[KA]) (by simp[KA]) (by simp[KA]) (by simp[KA]) (by kernel_rfl) (by simp[KA]) (by simp[KA])
  ⟨⟨fun Y Y' h1 h2 h3=>h1.far h2 h3 R.only.size⟩,⟨fun Y Y' h1 h2 h3=>h1.far h2 h3 R.only.size⟩⟩ R.drew ?_
 apply Exists.intro;refine⟨fun B hb hs=>?_,fun h=>(by simp[KA]at h),fun Q0=>?_,?_⟩;case refine_1=>
  have V:aA B q (DA ⟨sp,sc,sm⟩ ⟨tc,td,tn,tw,L,ta,ti,pk,pa,pb,E,o⟩) 252:=hb.elim (fun h=>h.row) (fun h=>h.row);have lB:=V.lt;have b6:=V.cell;repeat (go_big_quiet_step (((go_at_call 44;exact AA (y _)))))
  exact wpQuiet_nil rfl
 case refine_2=>exact gF rfl (fun _ _=>by simp[go_sem]) fun Y H hs=>(D Y H.wds).mono fun r Y' ⟨h1,h2,h3⟩=>⟨h1,H.load h2 h3,h3.weak fun k hk=>hk ▸ Nat.lt_of_lt_of_le H.ls.2.1 R.only.size⟩
 case refine_3=>
  intro a w4 M X;obtain⟨rfl,b4,F,_⟩:=X;have b0:=F.cell;have zf:=F.free;have N:=F.set 6 (.int .u64 x);simp only[KA,vput,List.take,List.size_toArray,List.length_cons,List.length_nil,Nat.reduceAdd,Nat.reduceLT,decide_false,Bool.false_eq_true,if_false];clear F R D y;go_upto_region 1 with fail;generalize World.setCell _ ⟨q,6,.none⟩ (.int .u64 x)=Y at *;clear b0 zf;have lY:=N.lt;have b7:=N.cell;rcases b1 with rfl|⟨b2,b3⟩|⟨rfl,J⟩|⟨rfl,J⟩
  ·replace i:=hd' (i.out.trans (jP rfl));clear j n;go_wp2_with (first|(go_at_call 101;refine(z _).mono ?_;rintro r w1 ⟨rfl,l⟩;have C:=N.below l;have b8:=C.cell;have zf:=C.free));go_returns;exact⟨rfl,by rw[i];exact C.set 5 _⟩
  ·replace i:=hd' ((i.out.trans (jN (by simpa using b2))).trans (jP (by simpa using b3)));clear n;go_wp2_with (first|(go_at_call 101;refine(z _).mono ?_;rintro r w1 ⟨rfl,l⟩;have C:=N.below l)|(go_at_call 152;(with_reducible refine(j _ _ C.row).mono ?_);rintro r w3 S;obtain rfl:=S.ret));go_returns;exact⟨rfl,by rw[i];exact C.turned S⟩
  ·replace i:=hd' (((i.out.trans (jN (by decide))).trans (jN (by decide))).trans (jP J));go_wp2_with (first|(go_at_call 101;refine(z _).mono ?_;rintro r w1 ⟨rfl,l⟩;have C:=N.below l;have b9:=C.cell)|(go_at_call 44;refine(n _).mono ?_;rintro r w2 ⟨rfl,I⟩;have O:=C.below I)|(go_at_call 152;(with_reducible refine(j _ _ O.row).mono ?_);rintro r w3 S;obtain rfl:=S.ret));go_returns;exact⟨rfl,by rw[i];exact O.turned S⟩
  replace i:=hd' (((i.out.trans (jN (by decide))).trans (jN (by decide))).trans (jN J));clear j;have b5:0<=Z:=by omega
  go_wp2_with (first|(go_at_call 101;refine(z _).mono ?_;rintro r w1 ⟨rfl,l⟩;have C:=N.below l;have ba:=C.cell)|(go_at_call 44;refine(n _).mono ?_;rintro r w2 ⟨rfl,I⟩;have O:=C.below I;have bb:=O.cell;have zf:=O.free));go_returns;exact⟨rfl,by rw[i];exact(O.set 7 _).set 5 _⟩
theorem KL(s:Sh)(t:Ad)(m:Mem)(h:t.done=false)(h0:t.next=0):EA s t m=(t.asked s (m.get (zA s.p s.c s.m t.d)),m.load t.c (zA s.p s.c s.m t.d)):=by
 unfold EA Ad.asked;simp[h,h0]
theorem gM(s:Sh)(t:Ad)(m:Mem)(h:t.done=false)(h0:t.next=1):EA s t m=(if QD (m.get (zA s.p s.c s.m t.who))=1 then({t with next:=2}:Ad).fin 4 else {t with next:=2},m.load t.c (zA s.p s.c s.m t.who)):=by
 unfold EA;simp[h,h0]
theorem WL(s:Sh)(t:Ad)(m:Mem)(h:t.done=false)(h0:t.next=2):EA s t m=(if m.get (zA s.p s.c s.m t.d)=t.was then {t with next:=3} else({t with next:=3}:Ad).fin 4,m.swap t.c (zA s.p s.c s.m t.d) t.was (WA 3 t.c)):=by
 unfold EA;simp[h,h0]
theorem zvq(q p b:Nat)(s:Sh)(t:Ad)(m:Mem)(w:World)(h0:At3 q p b w w (DA s t) 252 m)(S:Fits s m)(hs:m.st<1000000000)(y:t.done=false)(hn:0<=t.next/\t.next<=2)(hd:0<=t.d/\t.d<s.c)(hw:t.next=1->0<=t.who/\t.who<s.c):
  Calls Tryz.prog 256 #[some q,some p] w fun e w'=>e= .returned (.tuple #[])/\At3 q p b w w' (DA s (EA s t m).1) 252 (EA s t m).2:=by
 rcases(by omega:t.next=0\/t.next=1\/t.next=2) with b1|U|b2
 ·rw[KL s t m y b1];have E:=z3b q p b s t m w h0 S hs hd;obtain⟨G,i⟩:∃ G,G=t.asked s (m.get (zA s.p s.c s.m t.d)):=⟨_,rfl⟩;obtain⟨m2,b0⟩:∃ m2,m2=m.load t.c (zA s.p s.c s.m t.d):=⟨_,rfl⟩;rw[<-i,<- b0]at E;dsimp only;rw[<-i,<- b0];clear i b0 hd hw S hs hn;obtain⟨sp,sc,sm⟩:=s;obtain⟨O,X,tn,Z,z,ta,ti,pk,pa,pb,n,R⟩:=t;dsimp only at y b1;subst y b1;replace E:=hd' E;have b6:=h0.cell;clear h0;go_in;go_wp2_with (go_at_call 259;(with_reducible refine E.out.mono ?_);rintro r w1 ⟨rfl,T⟩);go_returns;exact⟨rfl,T⟩
 ·rw[gM s t m y U];obtain⟨L,I⟩:=S.status (hw U);have l:=fun Y=>kC s.p s.c s.m t.who Y;rw[L]at l ⊢;have H:=fun Y (hY:oA Y p b m)=>fF p b m t.c t.who Y hY I hs;have V:=fun Y=>rs2 (m.get t.who) Y (Mem.kF h0.wds.fit _);generalize m.get t.who=x at *;have j:=fun Y (hY:aA Y q (DA s {t with next:=2}) 252)=>BJ q s {t with next:=2} 4 Y hY;obtain⟨G,i,D⟩:∃ G:Ad,Hid (G=if QD x=1 then({t with next:=2}:Ad).fin 4 else {t with next:=2})/\G=_:=⟨_,hd' rfl,rfl⟩;dsimp only;rw[<-D];clear D L I S hd hw hn;generalize QD x=k at *;generalize oD x=A at *;obtain⟨sp,sc,sm⟩:=s;obtain⟨O,X,tn,Z,z,ta,ti,pk,pa,pb,n,R⟩:=t;dsimp only at l H j i y U;subst y U;replace l:=hd' l;replace H:=hd' H;replace V:=hd' V;replace j:=hd' j;have b7:=h0.cell;go_in;go_upto_region 7 with fail
  refine wrl (x:=KA 2) (ld:=14) (v:= .int .u64 x) (ts:= [48,52,61])
   (K0:=fun Y=>At3 q p b w Y (DA ⟨sp,sc,sm⟩ ⟨O,X,1,Z,z,ta,ti,pk,pa,pb,n,false⟩) 252 m) (K1:=fun Y=>At3 q p b w Y (DA ⟨sp,sc,sm⟩ ⟨O,X,1,Z,z,ta,ti,pk,pa,pb,n,false⟩) 252 (m.load O z))
   ⟨⟨fun Y Y' h1 h2 h3=>h1.far h2 h3 h0.only.size⟩,⟨fun Y Y' h1 h2 h3=>h1.far h2 h3 h0.only.size⟩⟩ h0.drew ?_
  apply Exists.intro;refine⟨fun B hb hs=>?_,fun h=>(by simp[KA]at h),?_,?_⟩;case refine_1=>
   have N:aA B q (DA ⟨sp,sc,sm⟩ ⟨O,X,1,Z,z,ta,ti,pk,pa,pb,n,false⟩) 252:=hb.elim (fun h=>h.row) (fun h=>h.row);have lB:=N.lt;have b8:=N.cell;repeat (go_big_quiet_step ((first|(go_at_call 44;exact AA (l _))|(go_at_call 101;exact AA (V _)))))
   exact wpQuiet_nil rfl
  case refine_2=>exact gF rfl (fun _ _=>by simp[go_sem]) fun Y C hs=>(H Y C.wds).mono fun r Y' ⟨h1,h2,h3⟩=>⟨h1,C.load h2 h3,h3.weak fun k hk=>hk ▸ Nat.lt_of_lt_of_le C.ls.2.1 h0.only.size⟩
  case refine_3=>
   intro a w4 M S;obtain⟨rfl,b4,T,_⟩:=S;simp only[KA,vput,List.size_toArray,List.length_cons,List.length_nil,Nat.reduceAdd,Nat.reduceLT,decide_false,Bool.false_eq_true,if_false];have b9:=T.cell;have zf:=T.free;have hB:=T.set 5 (.int .i64 2);clear h0 H l V;rcases(by by_cases h:k=1<;>simp[h]:k=1\/(k≠1/\(k==1)=false)) with rfl|⟨hk,hk2⟩
   ·replace i:=hd' (i.out.trans (jP rfl));go_wp2_with (go_at_call 152;(with_reducible refine(j _ hB.row).mono ?_);rintro r w3 hT;obtain rfl:=hT.ret);go_returns;exact⟨rfl,by rw[i];exact hB.turned hT⟩
   replace i:=hd' (i.out.trans (jN hk));clear j;go_wp2_with fail;go_returns;exact⟨rfl,by rw[i];exact hB⟩
 rw[WL s t m y b2];obtain⟨L,I⟩:=S.status hd;have l:=fun Y=>kC s.p s.c s.m t.d Y;rw[L]at l ⊢;have J:=fun Y=>wJ 3 t.c Y;have F:=fun Y (hY:oA Y p b m)=>NH p b m t.c t.d t.was (WA 3 t.c) Y hY I (HH _ _) hs;have j:=fun Y (hY:aA Y q (DA s {t with next:=3}) 252)=>BJ q s {t with next:=3} 4 Y hY;obtain⟨G,i,D⟩:∃ G:Ad,Hid (G=if m.get t.d=t.was then {t with next:=3} else({t with next:=3}:Ad).fin 4)/\G=_:=⟨_,hd' rfl,rfl⟩;dsimp only;rw[<-D];obtain⟨sb,b3⟩:∃ sb,sb=decide (m.get t.d=t.was):=⟨_,rfl⟩;rw[<-b3]at F;have o:(sb=true/\G= {t with next:=3})\/(sb=false/\G=({t with next:=3}:Ad).fin 4):=by rw[b3,i];by_cases h:m.get t.d=t.was<;>simp[h]
 clear D L I S hd hw hn i b3;obtain⟨sp,sc,sm⟩:=s;obtain⟨O,X,tn,Z,z,ta,ti,pk,pa,pb,n,R⟩:=t;dsimp only at l J F j o y b2 ⊢;subst y b2;replace l:=hd' l;replace J:=hd' J;replace F:=hd' F;replace j:=hd' j;replace o:=hd' o;have b5:=h0.cell;have zf:=h0.free;go_in;go_upto_region 2 with fail;have hX:=h0.set 5 (.int .i64 3);generalize World.setCell _ ⟨q,5,.none⟩ (.int .i64 3)=W at *;clear h0 b5 zf
 refine wrl (x:=KA 2) (ld:=23) (v:= .bool sb) (ts:= [13,17,26,30,35])
  (K0:=fun Y=>At3 q p b w Y (DA ⟨sp,sc,sm⟩ ⟨O,X,3,Z,z,ta,ti,pk,pa,pb,n,false⟩) 252 m) (K1:=fun Y=>At3 q p b w Y (DA ⟨sp,sc,sm⟩ ⟨O,X,3,Z,z,ta,ti,pk,pa,pb,n,false⟩) 252 (m.swap O X Z (WA 3 O)))
  ⟨⟨fun Y Y' h1 h2 h3=>h1.far h2 h3 hX.only.size⟩,⟨fun Y Y' h1 h2 h3=>h1.far h2 h3 hX.only.size⟩⟩ hX.drew ?_
 apply Exists.intro;refine⟨fun B hb hs=>?_,fun h=>(by simp[KA]at h),?_,?_⟩;case refine_1=>
  have N:aA B q (DA ⟨sp,sc,sm⟩ ⟨O,X,3,Z,z,ta,ti,pk,pa,pb,n,false⟩) 252:=hb.elim (fun h=>h.row) (fun h=>h.row);have lB:=N.lt;have ba:=N.cell;repeat (go_big_quiet_step ((first|(go_at_call 44;exact AA (l _))|(go_at_call 100;exact AA (J _)))))
  exact wpQuiet_nil rfl
 case refine_2=>exact gF rfl (fun _ _=>by simp[go_sem]) fun Y C hs=>(F Y C.wds).mono fun r Y' ⟨h1,h2,h3⟩=>⟨h1,C.access h2 h3,h3.weak fun k hk=>hk.elim (fun e=>e ▸ Nat.lt_of_lt_of_le C.ls.2.1 hX.only.size) (fun e=>e ▸ Nat.lt_of_lt_of_le C.ls.2.2 hX.only.size)⟩
 case refine_3=>
  intro a w4 M S;obtain⟨rfl,b4,T,_⟩:=S;simp only[KA,vput,List.size_toArray,List.length_cons,List.length_nil,Nat.reduceAdd,Nat.reduceLT,decide_false,Bool.false_eq_true,if_false];clear hX F l J;rcases o.out with⟨rfl,i⟩|⟨rfl,i⟩
  ·replace i:=hd' i;clear o j;go_wp2_with fail;go_returns;exact⟨rfl,by rw[i];exact T⟩
  replace i:=hd' i;clear o;go_wp2_with (go_at_call 152;(with_reducible refine(j _ T.row).mono ?_);rintro r w3 hT;obtain rfl:=hT.ret);go_returns;exact⟨rfl,by rw[i];exact T.turned hT⟩
end

section

structure Hp where
 p:Int
 c:Int
 m:Int
 xs:List Int
def wd (xs:List Int) (i:Int):Int:=xs.getD i.toNat 0
theorem ZY{xs:List Int}{i:Int}(h0:0<=i)(h1:i<xs.length):wd xs i=xs[i.toNat]'(by omega):=by
 unfold wd;rw[List.getD_eq_getElem?_getD,List.getElem?_eq_getElem (by omega)];rfl
def Hp.ok (h:Hp):Bool:=mayB h.p h.c h.m && decide (oB h.p h.c h.m<=(h.xs.length:Int))
def Hp.pw (h:Hp) (a:Int):Int:=wd h.xs (h.c + a)
def Hp.pb (h:Hp) (a:Int):Bool:=MA h.p h.c h.m a (h.pw a)
def Hp.pk (h:Hp) (a:Int):Int:=if h.pb a=true then PA (h.pw a) else 0
def Hp.pa (h:Hp) (a:Int):Int:=if h.pb a=true then nA (h.pw a) 0 else 0
def Hp.pn (h:Hp) (a:Int):Int:=if h.pb a=true then nA (h.pw a) 1 else 0
def Hp.sw (h:Hp) (a i:Int):Int:=wd h.xs (h.c + h.p + a * 16 + i)
def Hp.sk (h:Hp) (a i:Int):Int:=if NF (h.sw a i)=true then PA (h.sw a i) else 0
def Hp.sa (h:Hp) (a i:Int):Int:=if NF (h.sw a i)=true then nA (h.sw a i) 0 else 0
def Hp.hd (h:Hp) (a:Int):Int:=if (h.pb a && h.pk a==4)=true then h.pa a else a
def Hp.hb (h:Hp) (a:Int):Bool:=h.pb (h.hd a) && h.pk (h.hd a)==1
def Hp.hc (h:Hp) (a:Int):Int:=if h.hb a=true then h.pa (h.hd a) else 0
def YM (x:Int):Bool:=WA (PA x) (nA x 0)==x && PA x==1
def Hp.lv (h:Hp) (x:Int):Bool:=mayB h.p h.c h.m && wi x 0 (h.c - 1) && YM (wd h.xs x)
def Hp.op (h:Hp) (a:Int):Nat->Bool
 | 0=> true
 | i + 1=> h.op a i && h.sk a i==1
def Hp.fr (h:Hp) (a:Int):Bool:=if (h.pb a && h.pk a==2)=true then h.op a (mA (h.pa a)).toNat else h.pb a && h.pk a==0
def Hp.rw (h:Hp):Nat->Nat
 | 0=> 0
 | k + 1=> if h.fr k=true then h.rw k + 1 else 0
def Hp.fit (h:Hp):Prop:=∀ x ∈ h.xs,0<=x/\x < 18446744073709551616
theorem Hp.QK{h:Hp}(b:h.fit)(i:Int):0<=wd h.xs i/\wd h.xs i<18446744073709551616:=by
 unfold wd;rw[List.getD_eq_getElem?_getD];rcases Nat.lt_or_ge i.toNat h.xs.length with h1|h1
 ·rw[List.getElem?_eq_getElem h1];exact b _ (List.getElem_mem h1)
 rw[List.getElem?_eq_none h1];exact⟨by decide,by decide⟩
theorem zpp{p c m a x:Int}(h:MA p c m a x=true):BE p c a (PA x) (nA x 0) (nA x 1)=true:=by
 unfold MA at h;simp only[jC]at h;exact h.2
theorem Hp.OP{h:Hp}{a:Int}(b:h.pb a=true):BE h.p h.c a (h.pk a) (h.pa a) (h.pn a)=true:=by
 unfold Hp.pk Hp.pa Hp.pn;rw[jP b,jP b,jP b];exact zpp b
theorem Hp.dJ(h:Hp)(a:Int):(0<=h.pk a/\h.pk a<=15)/\(0<=h.pa a/\h.pa a<=255)/\0<=h.pn a/\h.pn a<=255:=by
 unfold Hp.pk Hp.pa Hp.pn;have:=YW (h.pw a);have:=nH (h.pw a) 0;have:=nH (h.pw a) 1;split<;>simp_all
theorem Hp.sN{h:Hp}{a:Int}(b:(h.pb a&&h.pk a==4)=true):h.pa a<a/\a-8<h.pa a/\0<=h.pa a:=by
 simp only[jC,beq_iff_eq]at b;have:=h.OP b.1;rw[b.2]at this;simp[BE]at this;exact⟨this.1,this.2,(h.dJ a).2.1.1⟩
theorem Hp.zN{h:Hp}{a:Int}(b:(h.pb a&&h.pk a==3)=true):1<=h.pa a/\h.pa a<=8/\h.pa a<=h.p-a:=by
 simp only[jC,beq_iff_eq]at b;have:=h.OP b.1;rw[b.2]at this;simp[BE]at this;omega
theorem Hp.rN{h:Hp}{a:Int}(b:(h.pb a&&h.pk a==2)=true):0<=h.pa a/\h.pa a<=3:=by
 simp only[jC,beq_iff_eq]at b;have:=h.OP b.1;rw[b.2]at this;simp[BE]at this;have:=(h.dJ a).2.1.1;omega
theorem Hp.yfx{h:Hp}{a:Int}(h0:0<=a)(h1:a<h.p):0<=h.hd a/\h.hd a<h.p:=by
 unfold Hp.hd;split
 ·rename_i b;have:=Hp.sN b;omega
 exact⟨h0,h1⟩
structure Cn where
 f:Int
 t:Int
 l:Int
 o:Int
 deriving DecidableEq
def Cn.zero:Cn:=⟨0,0,0,0⟩
def Cn.add (x y:Cn):Cn:=⟨x.f + y.f,x.t + y.t,x.l + y.l,x.o + y.o⟩
def Cn.sum (x:Cn):Int:=x.f + x.t + x.l + x.o
def Cn.nn (x:Cn):Prop:=0<=x.f/\0<=x.t/\0<=x.l/\0<=x.o
theorem Cn.YP(x y:Cn):(x.add y).sum=x.sum+y.sum:=by simp only[Cn.sum,Cn.add];omega
theorem Cn.jO{x y:Cn}(h:x.nn)(k:y.nn):(x.add y).nn:=by unfold Cn.nn Cn.add at *;simp only;omega
theorem Cn.bd{x:Cn}{n:Int}(h:x.nn)(k:x.sum<=n):(0<=x.f/\x.f<=n)/\(0<=x.t/\x.t<=n)/\(0<=x.l/\x.l<=n)/\0<=x.o/\x.o<=n:=by unfold Cn.nn Cn.sum at *;omega
theorem Cn.add_assoc(x y z:Cn):(x.add y).add z=x.add (y.add z):=by simp only[Cn.add,Int.add_assoc]
theorem Cn.add_zero(x:Cn):x.add Cn.zero=x:=by simp[Cn.add,Cn.zero]
def JD (b:Bool) (k:Int):Cn:=if b=true then ⟨0,0,k,0⟩ else ⟨0,0,0,k⟩
theorem RV(b:Bool)(k:Int):(JD b k).sum=k:=by unfold JD Cn.sum;split<;>simp
theorem rX(b:Bool){k:Int}(h:0<=k):(JD b k).nn:=by unfold JD Cn.nn;split<;>simp[h]
def Hp.slC (h:Hp) (a z i:Int):Cn:=if h.sk a i=1 then ⟨z,0,0,0⟩ else if h.sk a i=3 then ⟨0,z,0,0⟩ else JD (h.sk a i==2 && h.lv (h.sa a i)) z
def Hp.slS (h:Hp) (a z:Int):Nat->Cn
 | 0=> Cn.zero
 | i + 1=> (h.slS a z i).add (h.slC a z i)
theorem Hp.HY(h:Hp)(a z i:Int):(h.slC a z i).sum=z:=by
 unfold Hp.slC;split
 ·simp[Cn.sum]
 split
 ·simp[Cn.sum]
 exact RV _ _
theorem Hp.xZ(h:Hp)(a i:Int){z:Int}(b:0<=z):(h.slC a z i).nn:=by
 unfold Hp.slC;split
 ·simp[Cn.nn,b]
 split
 ·simp[Cn.nn,b]
 exact rX _ b
theorem Hp.eT(h:Hp)(a z:Int)(i:Nat):(h.slS a z i).sum=z*i:=by
 induction i with
 |zero=>simp[Hp.slS,Cn.zero,Cn.sum];|succ i b=>show ((h.slS a z i).add (h.slC a z i)).sum=_;rw[Cn.YP,b,Hp.HY,Int.natCast_add,Int.mul_add];simp
theorem Hp.OT(h:Hp)(a:Int){z:Int}(b:0<=z)(i:Nat):(h.slS a z i).nn:=by
 induction i with
 |zero=>simp[Hp.slS,Cn.zero,Cn.nn]
 |succ i f=>exact Cn.jO f (h.xZ a i b)
def Hp.pgC (h:Hp) (a:Int):Cn:=
 if (h.hb a || !h.pb a)=true then JD (h.hb a && h.lv (h.hc a)) 64
 else if h.pk a=0 then ⟨64,0,0,0⟩
 else if h.pk a=2 then h.slS a (qA (h.pa a)) (mA (h.pa a)).toNat
 else ⟨0,64,0,0⟩
def Hp.cn (h:Hp):Nat->Cn
 | 0=> Cn.zero
 | k + 1=> (h.cn k).add (h.pgC k)
def Hp.count (h:Hp):Cn:=if h.ok=true then h.cn h.p.toNat else Cn.zero
theorem Hp.RY(h:Hp)(a:Int):(h.pgC a).sum=64:=by
 unfold Hp.pgC;split
 ·exact RV _ _
 rename_i h1;simp only[Bool.or_eq_true,Bool.not_eq_true',not_or,Bool.not_eq_false]at h1;split
 ·simp[Cn.sum]
 split
 ·rename_i h2;have:=Hp.rN (h:=h) (a:=a) (by rw[h1.2,h2];rfl);have hb:=CC (h.pa a);rw[Hp.eT,Int.toNat_of_nonneg hb.1];exact OX this
 simp[Cn.sum]
theorem Hp.YY(h:Hp)(a:Int):(h.pgC a).nn:=by
 unfold Hp.pgC;split
 ·exact rX _ (by decide)
 split
 ·simp[Cn.nn]
 split
 ·exact h.OT a (wH _).1 _
 simp[Cn.nn]
theorem Hp.AQ(h:Hp)(k:Nat):(h.cn k).sum=64*k:=by
 induction k with
 |zero=>simp[Hp.cn,Cn.zero,Cn.sum];|succ k b=>show ((h.cn k).add (h.pgC k)).sum=_;rw[Cn.YP,b,Hp.RY];omega
theorem Hp.LQ(h:Hp)(k:Nat):(h.cn k).nn:=by
 induction k with
 |zero=>simp[Hp.cn,Cn.zero,Cn.nn]
 |succ k b=>exact Cn.jO b (h.YY k)
end

end Go.Proofs.YtkilokkopbajkaaGreat

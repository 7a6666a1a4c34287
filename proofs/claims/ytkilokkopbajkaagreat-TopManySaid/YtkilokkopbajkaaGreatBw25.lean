/- Lemmas for the claim. -/
import Derived.Test.YtkilokkopbajkaaGreatBw24

set_option linter.all false
set_option maxHeartbeats 4000000
set_option maxRecDepth 100000
namespace Go.Proofs.YtkilokkopbajkaaGreat

attribute [local go_sem] DA

open Go.RowKit

attribute [local go_sem ↓] Go.wp_at_zero Go.wp_at_succ

def Ad.page (s:Sh) (t:Ad) (a x:Int):Ad:= { t with pk:=pgK s a x,pa:=pgP s a x 0,pb:=pgP s a x 1 }
theorem RS(s:Sh)(t:Ad)(a x:Int):t.keep s a x=t.page s a x:=rfl
theorem qM(s:Sh)(a x k:Int):(MA s.p s.c s.m a x=true/\PA x=k)↔(MA s.p s.c s.m a x=true/\pgK s a x=k):=by
 unfold pgK;cases MA s.p s.c s.m a x<;>simp
theorem FT(s:Sh)(t:Ad)(a x:Int):t.own s a x=(MA s.p s.c s.m a x&&(pgK s a x==1&&pgP s a x 0==t.d)):=by
 unfold Ad.own pgK pgP;cases MA s.p s.c s.m a x<;>simp
theorem RL(s:Sh)(t:Ad)(m:Mem)(h:t.done=false)(h0:t.next=3):EA s t m=(if MA s.p s.c s.m t.at' (m.get (pA s.p s.c s.m t.at'))=true/\pgK s t.at' (m.get (pA s.p s.c s.m t.at'))=4 then { t.page s t.at' (m.get (pA s.p s.c s.m t.at')) with next:=4} else(t.page s t.at' (m.get (pA s.p s.c s.m t.at'))).turn s 3 6,m.load t.c (pA s.p s.c s.m t.at')):=by
 unfold EA;simp[h,h0,RS,qM]
theorem bM(s:Sh)(t:Ad)(m:Mem)(h:t.done=false)(h0:t.next=4):EA s t m=(if t.own s t.pa (m.get (pA s.p s.c s.m t.pa))=true then {t with next:=5} else t.turn s 3 6,m.load t.c (pA s.p s.c s.m t.pa)):=by
 unfold EA;simp[h,h0]
theorem OL(s:Sh)(t:Ad)(m:Mem)(h:t.done=false)(h0:t.next=5):EA s t m=(t.turn s 3 6,m.store t.c (pA s.p s.c s.m t.at') 0):=by
 unfold EA;simp[h,h0]
theorem iM(s:Sh)(t:Ad)(m:Mem)(h:t.done=false)(h0:t.next=6):EA s t m=(if t.own s t.at' (m.get (pA s.p s.c s.m t.at'))=true then {t with next:=7,i:=0} else t.turn s 6 9,m.load t.c (pA s.p s.c s.m t.at')):=by
 unfold EA;simp[h,h0]
theorem ML(s:Sh)(t:Ad)(m:Mem)(h:t.done=false)(h0:t.next=7):EA s t m=(if t.i+1=16 then {t with i:=t.i+1,next:=8} else {t with i:=t.i+1},m.store t.c (XA s.p s.c s.m t.at' t.i) 0):=by
 unfold EA;simp[h,h0]
theorem QL(s:Sh)(t:Ad)(m:Mem)(h:t.done=false)(h0:t.next=8):EA s t m=(t.turn s 6 9,m.store t.c (pA s.p s.c s.m t.at') 0):=by
 unfold EA;simp[h,h0]
theorem z9q(q p b:Nat)(s:Sh)(t:Ad)(m:Mem)(w:World)(h0:At3 q p b w w (DA s t) 252 m)(T:Fits s m)(hs:m.st<1000000000)(G:t.done=false)(U:t.next=3)(H:0<=t.at'/\t.at'<s.p):
  Calls Tryz.prog 257 #[some q,some p] w fun e w'=>e= .returned (.tuple #[])/\At3 q p b w w' (DA s (EA s t m).1) 252 (EA s t m).2:=by
 have j:0<=t.at'/\t.at'<64:=by have:=T.bd;omega
 rw[RL s t m G U];have l:=qL q p b s t m t.at' w h0 T hs H;generalize pA s.p s.c s.m t.at'=pg at *;generalize m.get pg=x at *;unfold Ad.page;have n:=fun Y (hY:aA Y q (DA s {t with pk:=pgK s t.at' x,pa:=pgP s t.at' x 0,pb:=pgP s t.at' x 1}) 252)=>IH q s {t with pk:=pgK s t.at' x,pa:=pgP s t.at' x 0,pb:=pgP s t.at' x 1} 3 6 Y hY j;generalize MA s.p s.c s.m t.at' x=B at *;generalize pgK s t.at' x=o at *;generalize pgP s t.at' x 0=D at *;generalize pgP s t.at' x 1=F at *;dsimp only;obtain⟨V,i,C⟩:∃ V:Ad,Hid (V=if B=true/\o=4 then {t with pk:=o,pa:=D,pb:=F,next:=4} else({t with pk:=o,pa:=D,pb:=F}:Ad).turn s 3 6)/\V=_:=⟨_,hd' rfl,rfl⟩;rw[<-C];clear C j;obtain⟨sp,sc,sm⟩:=s;obtain⟨tc,td,tn,tw,b3,ta,ti,pk,pa,pb,b0,X⟩:=t;dsimp only at G U H l n i ⊢;subst G U;replace l:=hd' l;replace n:=hd' n;have lq:=h0.lt;have L:=h0.cell;clear T hs;go_in;go_upto_region 5 with(go_at_call 260;(with_reducible refine l.out.mono ?_);rintro r J ⟨rfl,M⟩);have y:=M.alloc (.cells #[o,D,F] 136);have O:aA (J.alloc (.cells #[o,D,F] 136)) J.heap.size #[o,D,F] 136:=jA _ _;have S:J.heap.size≠q:=fun e=>by have:=M.lt;omega
 generalize J.alloc (.cells #[o,D,F] 136)=Y at *;obtain⟨E,R,z⟩:=hidv J.heap.size;simp only[<-z]at O S ⊢;clear z R M L l;have lY:=y.lt;have lE:=O.lt;have b1:=O.cell;have b2:=y.cell;have zf:=y.free;have N:=((y.set 10 (.int .i64 o)).set 11 (.int .i64 D)).set 12 (.int .i64 F);by_cases hc:B=true/\o=4
 ·replace i:=hd' (i.out.trans (jP hc));obtain⟨rfl,rfl⟩:=hc;have hD:=((N.set 5 (.int .i64 4)));clear n;go_wp2_with fail;go_returns;exact⟨rfl,by rw[i];exact hD⟩
 replace i:=hd' (i.out.trans (jN hc));have I:B=false\/(B=true/\(o==4)=false):=by
  cases B
  ·exact .inl rfl
  exact .inr ⟨rfl,by simpa using hc⟩
 clear hc;rcases I with rfl|⟨rfl,I⟩;all_goals go_wp2_with (go_at_call 261;(with_reducible refine(n _ N.row).mono ?_);rintro r w3 Z;obtain rfl:=Z.ret);go_returns;exact⟨rfl,by rw[i];exact N.turned Z⟩
theorem aY(q p b:Nat)(s:Sh)(t:Ad)(m:Mem)(w:World)(h0:At3 q p b w w (DA s t) 252 m)(J:Fits s m)(hs:m.st<1000000000)(E:t.done=false)(G:t.next=4)(I:0<=t.at'/\t.at'<s.p)(L:t.next=4->0<=t.pa/\t.pa<s.p):
  Calls Tryz.prog 257 #[some q,some p] w fun e w'=>e= .returned (.tuple #[])/\At3 q p b w w' (DA s (EA s t m).1) 252 (EA s t m).2:=by
 have l:0<=t.at'/\t.at'<64:=by have:=J.bd;omega
 rw[bM s t m E G];rw[FT];have n:=qL q p b s t m t.pa w h0 J hs (L G);have y:=fun Y (H:aA Y q (DA s t) 252)=>IH q s t 3 6 Y H l;generalize pA s.p s.c s.m t.pa=pg at *;generalize m.get pg=x at *;generalize MA s.p s.c s.m t.pa x=B at *;generalize pgK s t.pa x=O at *;generalize pgP s t.pa x 0=R at *;generalize pgP s t.pa x 1=Z at *;have i:=fun Y (H:aA Y q (DA s t) 252)=>LV q s t O R Z B Y H;generalize (B&&(O==1&&R==t.d))=o at *;dsimp only;obtain⟨M,j,C⟩:∃ M:Ad,Hid (M=if o=true then {t with next:=5} else t.turn s 3 6)/\M=_:=⟨_,hd' rfl,rfl⟩;rw[<-C];clear C l;obtain⟨sp,sc,sm⟩:=s;obtain⟨tc,td,tn,tw,b0,ta,ti,pk,pa,pb,T,N⟩:=t;dsimp only at E G I n y i j ⊢;subst E G;replace n:=hd' n;replace y:=hd' y;replace i:=hd' i;have lq:=h0.lt;have U:=h0.cell;clear J hs;go_in;rcases(by cases o<;>simp:o=true\/o=false) with rfl|rfl
 ·replace j:=hd' (j.out.trans (jP rfl));clear y;go_wp2_with (first|(go_at_call 260;(with_reducible refine n.out.mono ?_);rintro r w1 ⟨rfl,F⟩)|(go_at_call 262;(with_reducible refine(i _ F.row).mono ?_);rintro r w2 ⟨rfl,D⟩;have z:=F.below D;have V:=z.cell;have zf:=z.free));go_returns;exact⟨rfl,by rw[j];exact z.set 5 _⟩
 replace j:=hd' (j.out.trans (jN (by decide)));go_wp2_with (first|(go_at_call 260;(with_reducible refine n.out.mono ?_);rintro r w1 ⟨rfl,F⟩)|(go_at_call 262;(with_reducible refine(i _ F.row).mono ?_);rintro r w2 ⟨rfl,D⟩;have z:=F.below D;have X:=z.cell;have zf:=z.free)|(go_at_call 261;(with_reducible refine(y _ z.row).mono ?_);rintro r w3 S;obtain rfl:=S.ret));go_returns;exact⟨rfl,by rw[j];exact z.turned S⟩
theorem z9w(q p b:Nat)(s:Sh)(t:Ad)(m:Mem)(w:World)(h0:At3 q p b w w (DA s t) 252 m)(F:Fits s m)(hs:m.st<1000000000)(y:t.done=false)(G:t.next=5)(o:0<=t.at'/\t.at'<s.p):
  Calls Tryz.prog 257 #[some q,some p] w fun e w'=>e= .returned (.tuple #[])/\At3 q p b w w' (DA s (EA s t m).1) 252 (EA s t m).2:=by
 have j:0<=t.at'/\t.at'<64:=by have:=F.bd;omega
 rw[OL s t m y G];obtain⟨B,z⟩:=F.page o;have i:=fun Y=>EB s.p s.c s.m t.at' Y;rw[B]at i ⊢;have n:=fun Y (D:oA Y p b m)=>nC p b m t.c (s.c+t.at') 0 Y D z (by decide) hs;have l:=fun Y (D:aA Y q (DA s t) 252)=>IH q s t 3 6 Y D j;generalize s.c+t.at'=pg at *;dsimp only;obtain⟨O,C⟩:∃ O,O=t.turn s 3 6:=⟨_,rfl⟩;rw[<-C]at l ⊢;clear C B z F j;obtain⟨sp,V,X⟩:=s;obtain⟨tc,td,tn,tw,U,ta,ti,pk,pa,pb,R,J⟩:=t;dsimp only at y G o i n l ⊢;subst y G;replace i:=hd' i;replace n:=hd' n;replace l:=hd' l;have T:=h0.lt;have S:=h0.cell;clear o;go_in;go_upto_region 14 with fail;refine wret 14 ?_;repeat (go_big_quiet_step (((go_at_call 112;exact AA (i _)))))
 refine wqn fun Z E=>?_;have N:=h0.below E;clear T h0;go_wp2_with (first|(go_at_call 218;(with_reducible refine(n _ N.wds).mono ?_);rintro r w2 ⟨rfl,I,H⟩;have L:=N.access I H)|(go_at_call 261;(with_reducible refine(l _ L.row).mono ?_);rintro r w3 M;obtain rfl:=M.ret));go_returns;exact⟨rfl,L.turned M⟩
theorem BY(q p b:Nat)(s:Sh)(t:Ad)(m:Mem)(w:World)(h0:At3 q p b w w (DA s t) 252 m)(J:Fits s m)(hs:m.st<1000000000)(F:t.done=false)(L:t.next=6)(H:0<=t.at'/\t.at'<s.p):
  Calls Tryz.prog 257 #[some q,some p] w fun e w'=>e= .returned (.tuple #[])/\At3 q p b w w' (DA s (EA s t m).1) 252 (EA s t m).2:=by
 have n:0<=t.at'/\t.at'<64:=by have:=J.bd;omega
 rw[iM s t m F L];rw[FT];have y:=qL q p b s t m t.at' w h0 J hs H;have z:=fun Y (I:aA Y q (DA s t) 252)=>IH q s t 6 9 Y I n;generalize pA s.p s.c s.m t.at'=pg at *;generalize m.get pg=x at *;generalize MA s.p s.c s.m t.at' x=B at *;generalize pgK s t.at' x=O at *;generalize pgP s t.at' x 0=R at *;generalize pgP s t.at' x 1=Z at *;have j:=fun Y (I:aA Y q (DA s t) 252)=>LV q s t O R Z B Y I;generalize (B&&(O==1&&R==t.d))=o at *;dsimp only;obtain⟨M,l,D⟩:∃ M:Ad,Hid (M=if o=true then {t with next:=7,i:=0} else t.turn s 6 9)/\M=_:=⟨_,hd' rfl,rfl⟩;rw[<-D];clear D n;obtain⟨sp,sc,sm⟩:=s;obtain⟨tc,td,tn,tw,b0,ta,ti,pk,pa,pb,T,N⟩:=t;dsimp only at F L H y z j l ⊢;subst F L;replace y:=hd' y;replace z:=hd' z;replace j:=hd' j;have lq:=h0.lt;have U:=h0.cell;clear J hs;go_in;rcases(by cases o<;>simp:o=true\/o=false) with rfl|rfl
 ·replace l:=hd' (l.out.trans (jP rfl));clear z;go_wp2_with (first|(go_at_call 260;(with_reducible refine y.out.mono ?_);rintro r w1 ⟨rfl,G⟩)|(go_at_call 262;(with_reducible refine(j _ G.row).mono ?_);rintro r w2 ⟨rfl,E⟩;have C:=G.below E;have V:=C.cell;have zf:=C.free));go_returns;exact⟨rfl,by rw[l];exact(C.set 5 _).set 9 _⟩
 replace l:=hd' (l.out.trans (jN (by decide)));go_wp2_with (first|(go_at_call 260;(with_reducible refine y.out.mono ?_);rintro r w1 ⟨rfl,G⟩)|(go_at_call 262;(with_reducible refine(j _ G.row).mono ?_);rintro r w2 ⟨rfl,E⟩;have C:=G.below E;have X:=C.cell;have zf:=C.free)|(go_at_call 261;(with_reducible refine(z _ C.row).mono ?_);rintro r w3 S;obtain rfl:=S.ret));go_returns;exact⟨rfl,by rw[l];exact C.turned S⟩
theorem iY(q p b:Nat)(s:Sh)(t:Ad)(m:Mem)(w:World)(h0:At3 q p b w w (DA s t) 252 m)(I:Fits s m)(hs:m.st<1000000000)(C:t.done=false)(J:t.next=7)(z:0<=t.at'/\t.at'<s.p)(hi:0<=t.i/\t.i<16):
  Calls Tryz.prog 257 #[some q,some p] w fun e w'=>e= .returned (.tuple #[])/\At3 q p b w w' (DA s (EA s t m).1) 252 (EA s t m).2:=by
 have B:0<=t.at'/\t.at'<64:=by have:=I.bd;omega
 rw[ML s t m C J];obtain⟨E,D⟩:=I.slot z hi;have j:=fun Y=>oE s.p s.c s.m t.at' t.i Y;rw[E]at j ⊢;have o:=fun Y (X:oA Y p b m)=>nC p b m t.c (s.c+s.p+t.at'*16+t.i) 0 Y X D (by decide) hs;generalize s.c+s.p+t.at'*16+t.i=pg at *;have T:=wrp (t.i+1);have n:t.i+1=16\/(¬ t.i+1=16/\(t.i+1==16)=false):=by
  by_cases h:t.i+1=16
  ·exact .inl h
  exact .inr ⟨h,by simpa using h⟩
 dsimp only;obtain⟨N,l,y⟩:∃ N:Ad,Hid (N=if t.i+1=16 then {t with i:=t.i+1,next:=8} else {t with i:=t.i+1})/\N=_:=⟨_,hd' rfl,rfl⟩;rw[<-y];clear y E D I B hi;obtain⟨sp,sc,sm⟩:=s;obtain⟨tc,td,tn,tw,b0,ta,ti,pk,pa,pb,S,O⟩:=t;dsimp only at C J z j o l n T ⊢;subst C J;replace j:=hd' j;replace o:=hd' o;replace n:=hd' n;have lq:=h0.lt;have U:=h0.cell;clear z;go_in;go_upto_region 21 with fail;refine wret 18 ?_;repeat (go_big_quiet_step (((go_at_call 114;exact AA (j _)))))
 refine wqn fun Z H=>?_;have R:=h0.below H;clear lq h0;go_upto_region 23 with(first|(go_at_call 218;(with_reducible refine(o _ R.wds).mono ?_);rintro r w2 ⟨rfl,M,L⟩;have F:=R.access M L;have V:=F.cell;have zf:=F.free));have G:=F.set 9 (.int .i64 (ti+1));rcases n.out with h1|⟨h1,h2⟩
 ·replace l:=hd' (l.out.trans (jP h1));rw[h1]at l G T;simp only[h1];clear n h1;go_wp2_with fail;go_returns;exact⟨rfl,by rw[l];exact G.set 5 _⟩
 replace l:=hd' (l.out.trans (jN h1));clear n h1;go_wp2_with fail;go_returns;exact⟨rfl,by rw[l];exact G⟩
theorem qY(q p b:Nat)(s:Sh)(t:Ad)(m:Mem)(w:World)(h0:At3 q p b w w (DA s t) 252 m)(F:Fits s m)(hs:m.st<1000000000)(y:t.done=false)(G:t.next=8)(o:0<=t.at'/\t.at'<s.p):
  Calls Tryz.prog 257 #[some q,some p] w fun e w'=>e= .returned (.tuple #[])/\At3 q p b w w' (DA s (EA s t m).1) 252 (EA s t m).2:=by
 have j:0<=t.at'/\t.at'<64:=by have:=F.bd;omega
 rw[QL s t m y G];obtain⟨B,z⟩:=F.page o;have i:=fun Y=>EB s.p s.c s.m t.at' Y;rw[B]at i ⊢;have n:=fun Y (D:oA Y p b m)=>nC p b m t.c (s.c+t.at') 0 Y D z (by decide) hs;have l:=fun Y (D:aA Y q (DA s t) 252)=>IH q s t 6 9 Y D j;generalize s.c+t.at'=pg at *;dsimp only;obtain⟨O,C⟩:∃ O,O=t.turn s 6 9:=⟨_,rfl⟩;rw[<-C]at l ⊢;clear C B z F j;obtain⟨sp,V,X⟩:=s;obtain⟨tc,td,tn,tw,U,ta,ti,pk,pa,pb,R,J⟩:=t;dsimp only at y G o i n l ⊢;subst y G;replace i:=hd' i;replace n:=hd' n;replace l:=hd' l;have T:=h0.lt;have S:=h0.cell;clear o;go_in;go_upto_region 1 with fail;refine wret 14 ?_;repeat (go_big_quiet_step (((go_at_call 112;exact AA (i _)))))
 refine wqn fun Z E=>?_;have N:=h0.below E;clear T h0;go_wp2_with (first|(go_at_call 218;(with_reducible refine(n _ N.wds).mono ?_);rintro r w2 ⟨rfl,I,H⟩;have L:=N.access I H)|(go_at_call 261;(with_reducible refine(l _ L.row).mono ?_);rintro r w3 M;obtain rfl:=M.ret));go_returns;exact⟨rfl,L.turned M⟩
theorem zL(s:Sh)(t:Ad)(m:Mem)(h:t.done=false)(h0:t.next=10):EA s t m=(if MA s.p s.c s.m t.at' (m.get (pA s.p s.c s.m t.at'))=true/\pgK s t.at' (m.get (pA s.p s.c s.m t.at'))=2 then { t.page s t.at' (m.get (pA s.p s.c s.m t.at')) with next:=11,i:=0} else(t.page s t.at' (m.get (pA s.p s.c s.m t.at'))).turn s 10 13,m.load t.c (pA s.p s.c s.m t.at')):=by
 unfold EA;simp[h,h0,RS,qM]
theorem BL(s:Sh)(t:Ad)(m:Mem)(h:t.done=false)(h0:t.next=11):EA s t m=(if m.get (XA s.p s.c s.m t.at' t.i)=qB 2 t.d then {t with next:=12} else t.slot s,m.load t.c (XA s.p s.c s.m t.at' t.i)):=by
 unfold EA;simp[h,h0,wayW]
theorem GL(s:Sh)(t:Ad)(m:Mem)(h:t.done=false)(h0:t.next=12):EA s t m=(t.slot s,m.store t.c (XA s.p s.c s.m t.at' t.i) (qB 1 t.pa)):=by
 unfold EA;simp[h,h0,xB]
theorem uL(s:Sh)(t:Ad)(m:Mem)(h:t.done=false)(h0:t.next=13):EA s t m=(t.fin 0,m.store t.c (zA s.p s.c s.m t.d) (WA 4 0)):=by
 unfold EA;simp[h,h0]
theorem z7h(q p b:Nat)(s:Sh)(t:Ad)(m:Mem)(w:World)(h0:At3 q p b w w (DA s t) 252 m)(U:Fits s m)(hs:m.st<1000000000)(H:t.done=false)(V:t.next=10)(I:0<=t.at'/\t.at'<s.p):
  Calls Tryz.prog 258 #[some q,some p] w fun e w'=>e= .returned (.tuple #[])/\At3 q p b w w' (DA s (EA s t m).1) 252 (EA s t m).2:=by
 have l:0<=t.at'/\t.at'<64:=by have:=U.bd;omega
 rw[zL s t m H V];have n:=qL q p b s t m t.at' w h0 U hs I;generalize pA s.p s.c s.m t.at'=pg at *;generalize m.get pg=x at *;unfold Ad.page;have o:=fun Y (hY:aA Y q (DA s {t with pk:=pgK s t.at' x,pa:=pgP s t.at' x 0,pb:=pgP s t.at' x 1}) 252)=>IH q s {t with pk:=pgK s t.at' x,pa:=pgP s t.at' x 0,pb:=pgP s t.at' x 1} 10 13 Y hY l;generalize MA s.p s.c s.m t.at' x=B at *;generalize pgK s t.at' x=y at *;generalize pgP s t.at' x 0=F at *;generalize pgP s t.at' x 1=G at *;dsimp only;obtain⟨X,j,D⟩:∃ X:Ad,Hid (X=if B=true/\y=2 then {t with pk:=y,pa:=F,pb:=G,next:=11,i:=0} else({t with pk:=y,pa:=F,pb:=G}:Ad).turn s 10 13)/\X=_:=⟨_,hd' rfl,rfl⟩;rw[<-D];clear D l;obtain⟨sp,sc,sm⟩:=s;obtain⟨tc,td,tn,tw,b3,ta,ti,pk,pa,pb,b0,Z⟩:=t;dsimp only at H V I n o j ⊢;subst H V;replace n:=hd' n;replace o:=hd' o;have lq:=h0.lt;have M:=h0.cell;clear U hs;go_in;go_upto_region 5 with(go_at_call 260;(with_reducible refine n.out.mono ?_);rintro r L ⟨rfl,N⟩);have z:=N.alloc (.cells #[y,F,G] 136);have R:aA (L.alloc (.cells #[y,F,G] 136)) L.heap.size #[y,F,G] 136:=jA _ _;have T:L.heap.size≠q:=fun e=>by have:=N.lt;omega
 generalize L.alloc (.cells #[y,F,G] 136)=Y at *;obtain⟨E,S,C⟩:=hidv L.heap.size;simp only[<-C]at R T ⊢;clear C S N M n;have lY:=z.lt;have lE:=R.lt;have b1:=R.cell;have b2:=z.cell;have zf:=z.free;have O:=((z.set 10 (.int .i64 y)).set 11 (.int .i64 F)).set 12 (.int .i64 G);by_cases hc:B=true/\y=2
 ·replace j:=hd' (j.out.trans (jP hc));obtain⟨rfl,rfl⟩:=hc;have hD:=((O.set 5 (.int .i64 11)).set 9 (.int .i64 0));clear o;go_wp2_with fail;go_returns;exact⟨rfl,by rw[j];exact hD⟩
 replace j:=hd' (j.out.trans (jN hc));have J:B=false\/(B=true/\(y==2)=false):=by
  cases B
  ·exact .inl rfl
  exact .inr ⟨rfl,by simpa using hc⟩
 clear hc;rcases J with rfl|⟨rfl,J⟩;all_goals go_wp2_with (go_at_call 261;(with_reducible refine(o _ O.row).mono ?_);rintro r w3 hT;obtain rfl:=hT.ret);go_returns;exact⟨rfl,by rw[j];exact O.turned hT⟩
theorem z7x(q p b:Nat)(s:Sh)(t:Ad)(m:Mem)(w:World)(h0:At3 q p b w w (DA s t) 252 m)(L:Fits s m)(hs:m.st<1000000000)(H:t.done=false)(X:t.next=11)(G:0<=t.at'/\t.at'<s.p)(hi:0<=t.i/\t.i<16):
  Calls Tryz.prog 258 #[some q,some p] w fun e w'=>e= .returned (.tuple #[])/\At3 q p b w w' (DA s (EA s t m).1) 252 (EA s t m).2:=by
 have n:0<=t.at'/\t.at'<64:=by have:=L.bd;omega
 rw[BL s t m H X];obtain⟨O,N⟩:=L.slot G hi;have j:=fun Y=>oE s.p s.c s.m t.at' t.i Y;rw[O]at j ⊢;have o:=fun Y (U:oA Y p b m)=>fF p b m t.c (s.c+s.p+t.at'*16+t.i) Y U N hs;have z:=fun Y=>mE 2 t.d Y;have C:=fun Y (U:aA Y q (DA s t) 252)=>TU q s t Y U n hi;generalize s.c+s.p+t.at'*16+t.i=pg at *;generalize m.get pg=x at *;generalize qB 2 t.d=y at *;dsimp only;obtain⟨t2,l,E⟩:∃ t2:Ad,Hid (t2=if x=y then {t with next:=12} else t.slot s)/\t2=_:=⟨_,hd' rfl,rfl⟩;rw[<-E];clear E O N L n hi;obtain⟨sp,Z,sm⟩:=s;obtain⟨S,td,tn,tw,I,ta,ti,pk,pa,pb,D,b0⟩:=t;dsimp only at H X G j o z C l ⊢;subst H X;replace j:=hd' j;replace o:=hd' o;replace z:=hd' z;replace C:=hd' C;have lq:=h0.lt;have T:=h0.cell;clear G;go_in;go_upto_region 10 with fail
 refine wrl (x:=KA 2) (ld:=18) (v:= .int .u64 x) (ts:= [60,64,77])
  (K0:=fun Y=>At3 q p b w Y (DA ⟨sp,Z,sm⟩ ⟨S,td,11,tw,I,ta,ti,pk,pa,pb,D,false⟩) 252 m) (K1:=fun Y=>At3 q p b w Y (DA ⟨sp,Z,sm⟩ ⟨S,td,11,tw,I,ta,ti,pk,pa,pb,D,false⟩) 252 (m.load S pg))
  ⟨⟨fun Y Y' h1 h2 h3=>h1.far h2 h3 h0.only.size⟩,⟨fun Y Y' h1 h2 h3=>h1.far h2 h3 h0.only.size⟩⟩ h0.drew ?_
 apply Exists.intro;refine⟨fun B hb hs=>?_,fun h=>(by simp[KA]at h),?_,?_⟩;case refine_1=>
  have R:aA B q (DA ⟨sp,Z,sm⟩ ⟨S,td,11,tw,I,ta,ti,pk,pa,pb,D,false⟩) 252:=hb.elim (fun h=>h.row) (fun h=>h.row);have lB:=R.lt;have b2:=R.cell;repeat (go_big_quiet_step ((first|(go_at_call 114;exact AA (j _))|(go_at_call 141;exact AA (z _)))))
  exact wpQuiet_nil rfl
 case refine_2=>exact gF rfl (fun _ _=>by simp[go_sem]) fun Y F hs=>(o Y F.wds).mono fun r Y' ⟨h1,h2,h3⟩=>⟨h1,F.load h2 h3,h3.weak fun k V=>V ▸ Nat.lt_of_lt_of_le F.ls.2.1 h0.only.size⟩
 case refine_3=>
  intro a w4 M L;obtain⟨rfl,b1,J,_⟩:=L;simp only[KA,vput,List.size_toArray,List.length_cons,List.length_nil,Nat.reduceAdd,Nat.reduceLT,decide_false,Bool.false_eq_true,if_false];have b3:=J.cell;have zf:=J.free;have lA:=J.lt;clear h0 o j z T;rcases(by by_cases h:x=y<;>simp[h]:x=y\/(x≠y/\(x==y)=false)) with rfl|⟨V,hk2⟩
  ·replace l:=hd' (l.out.trans (jP rfl));clear C;go_wp2_with fail;go_returns;exact⟨rfl,by rw[l];exact J.set 5 _⟩
  replace l:=hd' (l.out.trans (jN V));go_wp2_with (go_at_call 255;(with_reducible refine(C _ J.row).mono ?_);rintro r w3 hT;obtain rfl:=hT.ret);go_returns;exact⟨rfl,by rw[l];exact J.turned hT⟩
theorem z6v(q p b:Nat)(s:Sh)(t:Ad)(m:Mem)(w:World)(h0:At3 q p b w w (DA s t) 252 m)(I:Fits s m)(hs:m.st<1000000000)(C:t.done=false)(J:t.next=12)(B:0<=t.at'/\t.at'<s.p)(hi:0<=t.i/\t.i<16):
  Calls Tryz.prog 258 #[some q,some p] w fun e w'=>e= .returned (.tuple #[])/\At3 q p b w w' (DA s (EA s t m).1) 252 (EA s t m).2:=by
 have l:0<=t.at'/\t.at'<64:=by have:=I.bd;omega
 rw[GL s t m C J];obtain⟨E,D⟩:=I.slot B hi;have j:=fun Y=>oE s.p s.c s.m t.at' t.i Y;rw[E]at j ⊢;have z:=fun Y (G:oA Y p b m)=>nC p b m t.c (s.c+s.p+t.at'*16+t.i) (qB 1 t.pa) Y G D (EE _ _) hs;have o:=fun Y=>mE 1 t.pa Y;have n:=fun Y (G:aA Y q (DA s t) 252)=>TU q s t Y G l hi;generalize s.c+s.p+t.at'*16+t.i=pg at *;generalize qB 1 t.pa=y at *;dsimp only;obtain⟨T,F⟩:∃ T,T=t.slot s:=⟨_,rfl⟩;rw[<-F]at n ⊢;clear F E D I l hi;obtain⟨sp,sc,sm⟩:=s;obtain⟨tc,td,tn,tw,b0,ta,ti,pk,pa,pb,U,N⟩:=t;dsimp only at C J B j z o n ⊢;subst C J;replace j:=hd' j;replace z:=hd' z;replace o:=hd' o;replace n:=hd' n;have X:=h0.lt;have V:=h0.cell;clear B;go_in;go_upto_region 14 with fail;refine wret 25 ?_;repeat (go_big_quiet_step ((first|(go_at_call 114;exact AA (j _))|(go_at_call 141;exact AA (o _)))))
 refine wqn fun Z H=>?_;have S:=h0.below H;clear X h0;go_wp2_with (first|(go_at_call 218;(with_reducible refine(z _ S.wds).mono ?_);rintro r w2 ⟨rfl,M,L⟩;have O:=S.access M L)|(go_at_call 255;(with_reducible refine(n _ O.row).mono ?_);rintro r w3 R;obtain rfl:=R.ret));go_returns;exact⟨rfl,O.turned R⟩
theorem z7k(q p b:Nat)(s:Sh)(t:Ad)(m:Mem)(w:World)(h0:At3 q p b w w (DA s t) 252 m)(H:Fits s m)(hs:m.st<1000000000)(z:t.done=false)(I:t.next=13)(B:0<=t.at'/\t.at'<s.p)(hd:0<=t.d/\t.d<s.c):
  Calls Tryz.prog 258 #[some q,some p] w fun e w'=>e= .returned (.tuple #[])/\At3 q p b w w' (DA s (EA s t m).1) 252 (EA s t m).2:=by
 have o:0<=t.at'/\t.at'<64:=by have:=H.bd;omega
 rw[uL s t m z I];obtain⟨D,C⟩:=H.status hd;have i:=fun Y=>kC s.p s.c s.m t.d Y;rw[D]at i ⊢;have n:=fun Y (F:oA Y p b m)=>nC p b m t.c t.d (WA 4 0) Y F C (HH _ _) hs;have l:=fun Y=>wJ 4 0 Y;have j:=fun Y (F:aA Y q (DA s t) 252)=>BJ q s t 0 Y F;generalize WA 4 0=y at *;dsimp only;obtain⟨S,E⟩:∃ S,S=t.fin 0:=⟨_,rfl⟩;rw[<-E]at j ⊢;clear E D C H o hd;obtain⟨sp,sc,sm⟩:=s;obtain⟨tc,td,tn,tw,X,ta,ti,pk,pa,pb,T,M⟩:=t;dsimp only at z I B i n l j ⊢;subst z I;replace i:=hd' i;replace n:=hd' n;replace l:=hd' l;replace j:=hd' j;have V:=h0.lt;have U:=h0.cell;clear B;go_in;go_upto_region 1 with fail;refine wret 15 ?_;repeat (go_big_quiet_step ((first|(go_at_call 44;exact AA (i _))|(go_at_call 100;exact AA (l _)))))
 refine wqn fun Z G=>?_;have R:=h0.below G;clear V h0;go_wp2_with (first|(go_at_call 218;(with_reducible refine(n _ R.wds).mono ?_);rintro r w2 ⟨rfl,L,J⟩;have N:=R.access L J)|(go_at_call 152;(with_reducible refine(j _ N.row).mono ?_);rintro r w3 O;obtain rfl:=O.ret));go_returns;exact⟨rfl,N.turned O⟩
theorem SL(s:Sh)(t:Ad)(m:Mem)(h:t.done=false)(h0:t.next=9):EA s t m=(if t.i+1=s.m then {t with i:=0,next:=10} else {t with i:=t.i+1},m.store t.c (fC s.p s.c s.m t.d t.i) 0):=by
 unfold EA;simp[h,h0]
theorem XO(s:Sh)(t:Ad)(m:Mem)(h:t.done=true):EA s t m=(t,m):=by
 unfold EA;simp[h]
structure adOk (s:Sh) (t:Ad):Prop where
 cl:t.done=false->mayB s.p s.c s.m=true/\(0<=t.c/\t.c < s.c)/\(0<=t.d/\t.d < s.c)/\(0<=t.next/\t.next<=13)/\(0<=t.at'/\t.at' < s.p)/\(t.next=1->0<=t.who/\t.who < s.c)/\(t.next=4->0<=t.pa/\t.pa < s.p)/\
  (t.next=7->0<=t.i/\t.i < 16)/\(t.next=9->0<=t.i/\t.i < s.m)/\(t.next=11\/t.next=12->0 < mA t.pa/\0<=t.i/\t.i < mA t.pa)
theorem tI{s:Sh}(t:Ad)(e:Int):adOk s (t.fin e):=⟨fun h=>by cases h⟩
theorem z7f(s:Sh)(c d:Int):adOk s (jD s c d):=by
 unfold jD;dsimp only;split
 ·exact tI _ _
 rename_i h;have h1:=mD (by omega:0<=zA s.p s.c s.m c);have h2:=mD (by omega:0<=zA s.p s.c s.m d);have hb:=LA.1 h1.1;exact⟨fun _=>⟨h1.1,h1.2,h2.2,by dsimp only;omega,by dsimp only;omega,fun e=>by dsimp only at e;omega,fun e=>by dsimp only at e;omega,fun e=>by dsimp only at e;omega,fun e=>by dsimp only at e;omega,fun e=>by dsimp only at e;omega⟩⟩
theorem pW{s:Sh}{t:Ad}{again next:Int}(h1:mayB s.p s.c s.m=true)(h2:0<=t.c/\t.c<s.c)(h3:0<=t.d/\t.d<s.c)(h4:0<=t.at'/\t.at'<s.p)(j:again=3\/again=6\/again=10)(l:next=6\/next=9\/next=13):adOk s (t.turn s again next):=by
 have hb:=LA.1 h1;have i:=FP s t again next
 simp only[beq_eq_false_iff_ne,ne_eq]at i;rcases i with⟨k1,b,f,e⟩|⟨k1,b,f,e⟩|⟨k1,b,e⟩|⟨k1,b,f,e⟩|⟨k1,b,f,e⟩|⟨k1,b,e⟩;all_goals
  rw[e];refine⟨fun _=>⟨h1,h2,h3,?_,?_,fun e=>?_,fun e=>?_,fun e=>?_,fun e=>?_,fun e=>?_⟩⟩;all_goals try dsimp only at e
  all_goals dsimp only
  all_goals omega
theorem kW{s:Sh}{t:Ad}(h1:mayB s.p s.c s.m=true)(h2:0<=t.c/\t.c<s.c)(h3:0<=t.d/\t.d<s.c)(h4:0<=t.at'/\t.at'<s.p)(b:0<mA t.pa/\0<=t.i/\t.i<mA t.pa):adOk s (t.slot s):=by
 unfold Ad.slot;split
 ·exact pW h1 h2 h3 h4 (.inr (.inr rfl)) (.inr (.inr rfl))
 refine⟨fun _=>⟨h1,h2,h3,?_,h4,fun e=>?_,fun e=>?_,fun e=>?_,fun e=>?_,fun e=>?_⟩⟩;all_goals try dsimp only at e
 all_goals dsimp only
 all_goals omega
theorem z0s{s:Sh}{t:Ad}(m:Mem)(h:adOk s t):adOk s (EA s t m).1:=by
 rcases jB t.done with hd|hd
 ·rw[XO s t m hd];exact h
 obtain⟨h1,h2,h3,h4,l,c1,c4,c7,c9,f⟩:=h.cl hd;have hb:=LA.1 h1;have b:∀ (u:Ad),u.c=t.c->u.d=t.d->u.at'=t.at'->(0<=u.next/\u.next<=13)->u.next≠1->u.next≠4->(u.next=7->0<=u.i/\u.i<16)->(u.next=9->0<=u.i/\u.i<s.m)->(u.next=11\/u.next=12->0<mA u.pa/\0<=u.i/\u.i<mA u.pa)->adOk s u:=fun u q y z C D E F G r=>⟨fun _=>⟨h1,by rw[q];exact h2,by rw[y];exact h3,C,by rw[z];exact l,fun e=>absurd e D,fun e=>absurd e E,F,G,r⟩⟩
 have turn:∀ (u:Ad) again next,u.c=t.c->u.d=t.d->u.at'=t.at'->(again=3\/again=6\/again=10)->(next=6\/next=9\/next=13)->adOk s (u.turn s again next):=fun u a n q y z H I=>pW h1 (by rw[q];exact h2) (by rw[y];exact h3) (by rw[z];exact l) H I
 rcases(by omega:t.next=0\/t.next=1\/t.next=2\/t.next=3\/t.next=4\/t.next=5\/t.next=6\/t.next=7\/t.next=8\/t.next=9\/t.next=10\/t.next=11\/t.next=12\/t.next=13) with n|n|n|n|n|n|n|n|n|n|n|n|n|n
 ·rw[KL s t m hd n];unfold Ad.asked;dsimp only;split
  ·exact b _ rfl rfl rfl (by dsimp only;omega) (by dsimp only;omega) (by dsimp only;omega) (fun e=>by dsimp only at e;omega) (fun e=>by dsimp only at e;omega) (fun e=>by dsimp only at e;omega)
  split
  ·exact tI _ _
  split
  ·exact tI _ _
  rename_i B;have B:=mD (by omega:0<=zA s.p s.c s.m (oD (m.get (zA s.p s.c s.m t.d))));exact⟨fun _=>⟨h1,h2,h3,by dsimp only;omega,l,fun _=>B.2,fun e=>by dsimp only at e;omega,fun e=>by dsimp only at e;omega,fun e=>by dsimp only at e;omega,fun e=>by dsimp only at e;omega⟩⟩
 ·rw[gM s t m hd n];dsimp only;split
  ·exact tI _ _
  exact b _ rfl rfl rfl (by dsimp only;omega) (by dsimp only;omega) (by dsimp only;omega) (fun e=>by dsimp only at e;omega) (fun e=>by dsimp only at e;omega) (fun e=>by dsimp only at e;omega)
 ·rw[WL s t m hd n];dsimp only;split
  ·exact b _ rfl rfl rfl (by dsimp only;omega) (by dsimp only;omega) (by dsimp only;omega) (fun e=>by dsimp only at e;omega) (fun e=>by dsimp only at e;omega) (fun e=>by dsimp only at e;omega)
  exact tI _ _
 ·rw[RL s t m hd n];dsimp only;split
  ·rename_i o;have j:=(qM s t.at' (m.get (pA s.p s.c s.m t.at')) 4).2 o;have J:=zpu j.1 j.2;refine⟨fun _=>⟨h1,h2,h3,by dsimp only;omega,l,fun e=>by dsimp only at e;omega,fun _=>?_,fun e=>by dsimp only at e;omega,fun e=>by dsimp only at e;omega,fun e=>by dsimp only at e;omega⟩⟩;show 0<=pgP s t.at' (m.get (pA s.p s.c s.m t.at')) 0/\pgP s t.at' (m.get (pA s.p s.c s.m t.at')) 0<s.p;unfold pgP;rw[jP o.1];omega
  exact turn _ _ _ rfl rfl rfl (.inl rfl) (.inl rfl)
 ·rw[bM s t m hd n];dsimp only;split
  ·exact b _ rfl rfl rfl (by dsimp only;omega) (by dsimp only;omega) (by dsimp only;omega) (fun e=>by dsimp only at e;omega) (fun e=>by dsimp only at e;omega) (fun e=>by dsimp only at e;omega)
  exact turn _ _ _ rfl rfl rfl (.inl rfl) (.inl rfl)
 ·rw[OL s t m hd n];exact turn _ _ _ rfl rfl rfl (.inl rfl) (.inl rfl)
 ·rw[iM s t m hd n];dsimp only;split
  ·exact b _ rfl rfl rfl (by dsimp only;omega) (by dsimp only;omega) (by dsimp only;omega) (fun e=>by dsimp only;omega) (fun e=>by dsimp only at e;omega) (fun e=>by dsimp only at e;omega)
  exact turn _ _ _ rfl rfl rfl (.inr (.inl rfl)) (.inr (.inl rfl))
 ·rw[ML s t m hd n];have c7:=c7 n;dsimp only;split
  ·exact b _ rfl rfl rfl (by dsimp only;omega) (by dsimp only;omega) (by dsimp only;omega) (fun e=>by dsimp only at e;omega) (fun e=>by dsimp only at e;omega) (fun e=>by dsimp only at e;omega)
  exact b _ rfl rfl rfl (by dsimp only;omega) (by dsimp only;omega) (by dsimp only;omega) (fun e=>by dsimp only;omega) (fun e=>by dsimp only at e;omega) (fun e=>by dsimp only at e;omega)
 ·rw[QL s t m hd n];exact turn _ _ _ rfl rfl rfl (.inr (.inl rfl)) (.inr (.inl rfl))
 ·rw[SL s t m hd n];have c9:=c9 n;dsimp only;split
  ·exact b _ rfl rfl rfl (by dsimp only;omega) (by dsimp only;omega) (by dsimp only;omega) (fun e=>by dsimp only at e;omega) (fun e=>by dsimp only at e;omega) (fun e=>by dsimp only at e;omega)
  exact b _ rfl rfl rfl (by dsimp only;omega) (by dsimp only;omega) (by dsimp only;omega) (fun e=>by dsimp only at e;omega) (fun e=>by dsimp only;omega) (fun e=>by dsimp only at e;omega)
 ·rw[zL s t m hd n];dsimp only;split
  ·rename_i o;have j:=(qM s t.at' (m.get (pA s.p s.c s.m t.at')) 2).2 o;have J:=(oJ j.1 j.2).2.2;refine b _ rfl rfl rfl (by dsimp only;omega) (by dsimp only;omega) (by dsimp only;omega) (fun e=>by dsimp only at e;omega) (fun e=>by dsimp only at e;omega) (fun _=>?_);show 0<mA (pgP s t.at' (m.get (pA s.p s.c s.m t.at')) 0)/\(0:Int)<=0/\0<mA (pgP s t.at' (m.get (pA s.p s.c s.m t.at')) 0);unfold pgP;rw[jP o.1];omega
  exact turn _ _ _ rfl rfl rfl (.inr (.inr rfl)) (.inr (.inr rfl))
 ·rw[BL s t m hd n];have f:=f (.inl n);dsimp only;split
  ·exact b _ rfl rfl rfl (by dsimp only;omega) (by dsimp only;omega) (by dsimp only;omega) (fun e=>by dsimp only at e;omega) (fun e=>by dsimp only at e;omega) (fun _=>f)
  exact kW h1 h2 h3 l f
 ·rw[GL s t m hd n];exact kW h1 h2 h3 l (f (.inr n))
 rw[uL s t m hd n];exact tI _ _
theorem zxp(q p b:Nat)(s:Sh)(t:Ad)(m:Mem)(w:World)(h0:At3 q p b w w (DA s t) 252 m)(l:Fits s m)(hs:m.st<1000000000)(r:adOk s t)(i:t.done=false)(y:3<=t.next/\t.next<=8):
  Calls Tryz.prog 257 #[some q,some p] w fun e w'=>e= .returned (.tuple #[])/\At3 q p b w w' (DA s (EA s t m).1) 252 (EA s t m).2:=by
 obtain⟨h1,h2,h3,h4,j,c1,c4,c7,c9,o⟩:=r.cl i;rcases(by omega:t.next=3\/t.next=4\/t.next=5\/t.next=6\/t.next=7\/t.next=8) with n|n|n|n|n|n
 ·exact z9q q p b s t m w h0 l hs i n j
 ·exact aY q p b s t m w h0 l hs i n j c4
 ·exact z9w q p b s t m w h0 l hs i n j
 ·exact BY q p b s t m w h0 l hs i n j
 ·exact iY q p b s t m w h0 l hs i n j (c7 n)
 exact qY q p b s t m w h0 l hs i n j
theorem zyj(q p b:Nat)(s:Sh)(t:Ad)(m:Mem)(w:World)(h0:At3 q p b w w (DA s t) 252 m)(o:Fits s m)(hs:m.st<1000000000)(y:adOk s t)(j:t.done=false)(z:10<=t.next):
  Calls Tryz.prog 258 #[some q,some p] w fun e w'=>e= .returned (.tuple #[])/\At3 q p b w w' (DA s (EA s t m).1) 252 (EA s t m).2:=by
 obtain⟨h1,h2,h3,h4,l,c1,c4,c7,c9,r⟩:=y.cl j;have hi:t.next=11\/t.next=12->0<=t.i/\t.i<16:=fun e=>by have h:=r e;have:=MD h.1;omega
 rcases(by omega:t.next=10\/t.next=11\/t.next=12\/t.next=13) with n|n|n|n
 ·exact z7h q p b s t m w h0 o hs j n l
 ·exact z7x q p b s t m w h0 o hs j n l (hi (.inl n))
 ·exact z6v q p b s t m w h0 o hs j n l (hi (.inr n))
 exact z7k q p b s t m w h0 o hs j n l h3
theorem zyd(q p b:Nat)(s:Sh)(t:Ad)(m:Mem)(w:World)(hq:aA w q (DA s t) 252)(hw:oA w p b m)(b2:q≠p)(b0:q≠b)(H:Fits s m)(L:adOk s t)(hs:m.st<1000000000):
  Calls Tryz.prog 254 #[some q,some p] w fun e w'=>Stepped q p b w w' e (DA s (EA s t m).1) 252 (EA s t m).2:=by
 have h0:=At3.start hq hw b2 b0;clear hq hw b2 b0;rcases jB t.done with hd|hd
 ·rw[XO s t m hd];obtain⟨sp,sc,R⟩:=s;obtain⟨tc,td,n,tw,J,ta,G,pk,pa,pb,B,o⟩:=t;dsimp only at hd;subst hd;have E:=ce (.bool true) (h0.cell 14);clear H L hs;go_in;go_wp2_with fail;go_returns;exact h0.fin rfl rfl
 have l:=L.cl hd;by_cases O:t.next=9;case pos=>
  obtain⟨b1,c0,d0,n0,b3,w1,w4,w7,w9,b8⟩:=l;have hi:=w9 O;have b5:=LA.1 b1;rw[SL s t m hd O];obtain⟨V,T⟩:=H.mag d0 hi;have y:=fun Y=>xL s.p s.c s.m t.d t.i Y;rw[V]at y ⊢;have I:=fun Y (hY:oA Y p b m)=>nC p b m t.c (s.c+s.p+s.p*16+t.d*s.m+t.i) 0 Y hY T (by decide) hs;generalize s.c+s.p+s.p*16+t.d*s.m+t.i=pg at *;have w1:=wrp (t.i+1);have C:t.i+1=s.m\/(¬ t.i+1=s.m/\(t.i+1==s.m)=false):=by
   by_cases h:t.i+1=s.m
   ·exact .inl h
   exact .inr ⟨h,by simpa using h⟩
  dsimp only;obtain⟨D,j,M⟩:∃ D:Ad,Hid (D=if t.i+1=s.m then {t with i:=0,next:=10} else {t with i:=t.i+1})/\D=_:=⟨_,hd' rfl,rfl⟩;rw[<-M];clear M V T H L hi b5 b1 c0 d0 n0 b3 w4 w7 w9 b8;obtain⟨sp,sc,R⟩:=s;obtain⟨tc,td,n,tw,J,ta,G,pk,pa,pb,B,o⟩:=t;dsimp only at hd O y I j C w1;subst hd O;replace y:=hd' y;replace I:=hd' I;replace C:=hd' C;have lq:=h0.lt;obtain⟨c0,c1,c2,c3,c4,c5⟩:=ci6 sp sc R tc td 9 h0.cell;have c9:=ci G (h0.cell 9);have E:=ce (.bool false) (h0.cell 14);go_in;go_upto_region 7 with fail;refine wret 18 ?_;repeat (go_big_quiet_step (((go_at_call 118;exact AA (y _)))))
  refine wqn fun Z N=>?_;have hZ:=h0.below N;clear lq h0 c0 c1 c2 c3 c4 c5 c9 E;go_upto_region 9 with(first|(go_at_call 218;(with_reducible refine(I _ hZ.wds).mono ?_);rintro r w2 ⟨rfl,b7,b6⟩;have F:=hZ.access b7 b6;have k9:=ci G (F.cell 9);have zf:=F.free));have hB:=F.set 9 (.int .i64 (G+1));generalize World.setCell _ ⟨q,9,.none⟩ (.int .i64 (G+1))=U at *;clear k9 zf F;have lU:=hB.lt;have c2:=ci R (hB.cell 2);have c9:=ci (G+1) (hB.cell 9);refine wre ?_;repeat (go_big_quiet_step (fail))
  refine wqn fun X N=>?_;have S:=hB.below N;clear c2 c9;rcases C.out with h1|⟨h1,h2⟩
  ·subst h1;replace j:=hd' (j.out.trans (jP rfl));clear C;have k5:=ci 9 (S.cell 5);have k9:=ci (G+1) (S.cell 9);have zf:=S.free;go_wp2_with fail;go_returns;exact((S.set 9 _).set 5 _).fin (by rw[j];rfl) rfl
  replace j:=hd' (j.out.trans (jN h1));clear C h1;go_wp2_with fail;go_returns;exact S.fin (by rw[j];rfl) rfl
 case neg=>
  by_cases h2:t.next<=2
  ·have hb:=zvq q p b s t m w h0 H hs hd ⟨l.2.2.2.1.1,h2⟩ l.2.2.1 l.2.2.2.2.2.1;obtain⟨D,j⟩:∃ D,D=(EA s t m).1:=⟨_,rfl⟩;obtain⟨m2,z⟩:∃ m2,m2=(EA s t m).2:=⟨_,rfl⟩;rw[<-j,<- z]at hb ⊢;clear j z H L hs;obtain⟨sp,sc,R⟩:=s;obtain⟨tc,td,n,tw,J,ta,G,pk,pa,pb,B,o⟩:=t;dsimp only at hd O l h2;have hn:=l.2.2.2.1;clear l;subst hd;replace hb:=hd' hb;have c5:=ci n (h0.cell 5);have E:=ce (.bool false) (h0.cell 14);clear h0;rcases(by omega:n=0\/n=1\/n=2) with rfl|rfl|rfl;all_goals go_in;go_wp2_with (go_at_call 256;(with_reducible refine hb.out.mono ?_);rintro r w1 ⟨rfl,F⟩);go_returns;exact F.fin rfl rfl
  by_cases h8:t.next<=8
  ·have hb:=zxp q p b s t m w h0 H hs L hd ⟨by omega,h8⟩;obtain⟨D,j⟩:∃ D,D=(EA s t m).1:=⟨_,rfl⟩;obtain⟨m2,z⟩:∃ m2,m2=(EA s t m).2:=⟨_,rfl⟩;rw[<-j,<- z]at hb ⊢;clear j z H L hs;obtain⟨sp,sc,R⟩:=s;obtain⟨tc,td,n,tw,J,ta,G,pk,pa,pb,B,o⟩:=t;dsimp only at hd O l h2 h8;have hn:=l.2.2.2.1;clear l;subst hd;replace hb:=hd' hb;have c5:=ci n (h0.cell 5);have E:=ce (.bool false) (h0.cell 14);clear h0;rcases(by omega:n=3\/n=4\/n=5\/n=6\/n=7\/n=8) with rfl|rfl|rfl|rfl|rfl|rfl;all_goals go_in;go_wp2_with (go_at_call 257;(with_reducible refine hb.out.mono ?_);rintro r w1 ⟨rfl,F⟩);go_returns;exact F.fin rfl rfl
  by_cases b4:t.next<=13
  ·have hb:=zyj q p b s t m w h0 H hs L hd (by omega);obtain⟨D,j⟩:∃ D,D=(EA s t m).1:=⟨_,rfl⟩;obtain⟨m2,z⟩:∃ m2,m2=(EA s t m).2:=⟨_,rfl⟩;rw[<-j,<- z]at hb ⊢;clear j z H L hs;obtain⟨sp,sc,R⟩:=s;obtain⟨tc,td,n,tw,J,ta,G,pk,pa,pb,B,o⟩:=t;dsimp only at hd O l h2 h8 b4;have hn:=l.2.2.2.1;clear l;subst hd;replace hb:=hd' hb;have c5:=ci n (h0.cell 5);have E:=ce (.bool false) (h0.cell 14);clear h0;rcases(by omega:n=10\/n=11\/n=12\/n=13) with rfl|rfl|rfl|rfl;all_goals go_in;go_wp2_with (go_at_call 258;(with_reducible refine hb.out.mono ?_);rintro r w1 ⟨rfl,F⟩);go_returns;exact F.fin rfl rfl
  exact absurd l.2.2.2.1.2 (by omega)
end Go.Proofs.YtkilokkopbajkaaGreat

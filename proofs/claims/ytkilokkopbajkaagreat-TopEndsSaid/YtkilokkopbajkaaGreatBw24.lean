
import Derived.Test.YtkilokkopbajkaaGreatBw23

set_option linter.all false
set_option maxHeartbeats 2000000
set_option maxRecDepth 100000
namespace Go.Proofs.YtkilokkopbajkaaGreat

open RowKit

attribute [local go_sem ↓] wp_at_zero wp_at_succ

attribute [local go_sem] CA

def Ad.page (s:Sh) (t:Ad) (a x:Int):Ad:={t with pk:=pgK s a x,pa:=pgP s a x 0,pb:=pgP s a x 1}
theorem AT(s:Sh)(t:Ad)(a x:Int):t.keep s a x=t.page s a x:=rfl
theorem WM(s:Sh)(a x k:Int):(LA s.p s.c s.m a x=true/\PA x=k)↔(LA s.p s.c s.m a x=true/\pgK s a x=k):=by
 unfold pgK;cases LA s.p s.c s.m a x<;>simp
theorem XT(s:Sh)(t:Ad)(a x:Int):t.own s a x=(LA s.p s.c s.m a x&&(pgK s a x==1&&pgP s a x 0==t.d)):=by
 unfold Ad.own pgK pgP;cases LA s.p s.c s.m a x<;>simp
theorem CM(s:Sh)(t:Ad)(m:Mem)(h:t.done=false)(h0:t.next=3):EA s t m=(if LA s.p s.c s.m t.at' (m.get (pA s.p s.c s.m t.at'))=true/\pgK s t.at' (m.get (pA s.p s.c s.m t.at'))=4 then {t.page s t.at' (m.get (pA s.p s.c s.m t.at')) with next:=4} else(t.page s t.at' (m.get (pA s.p s.c s.m t.at'))).turn s 3 6,m.load t.c (pA s.p s.c s.m t.at')):=by
 unfold EA;simp[h,h0,AT,WM]
theorem KM(s:Sh)(t:Ad)(m:Mem)(h:t.done=false)(h0:t.next=4):EA s t m=(if t.own s t.pa (m.get (pA s.p s.c s.m t.pa))=true then {t with next:=5} else t.turn s 3 6,m.load t.c (pA s.p s.c s.m t.pa)):=by
 unfold EA;simp[h,h0]
theorem AM(s:Sh)(t:Ad)(m:Mem)(h:t.done=false)(h0:t.next=5):EA s t m=(t.turn s 3 6,m.store t.c (pA s.p s.c s.m t.at') 0):=by
 unfold EA;simp[h,h0]
theorem OM(s:Sh)(t:Ad)(m:Mem)(h:t.done=false)(h0:t.next=6):EA s t m=(if t.own s t.at' (m.get (pA s.p s.c s.m t.at'))=true then {t with next:=7,i:=0} else t.turn s 6 9,m.load t.c (pA s.p s.c s.m t.at')):=by
 unfold EA;simp[h,h0]
theorem xM(s:Sh)(t:Ad)(m:Mem)(h:t.done=false)(h0:t.next=7):EA s t m=(if t.i+1=16 then {t with i:=t.i+1,next:=8} else {t with i:=t.i+1},m.store t.c (bB s.p s.c s.m t.at' t.i) 0):=by
 unfold EA;simp[h,h0]
theorem BM(s:Sh)(t:Ad)(m:Mem)(h:t.done=false)(h0:t.next=8):EA s t m=(t.turn s 6 9,m.store t.c (pA s.p s.c s.m t.at') 0):=by
 unfold EA;simp[h,h0]
theorem z9q(q p b:Nat)(s:Sh)(t:Ad)(m:Mem)(w:World)(h0:At3 q p b w w (CA s t) 252 m)(T:Fits s m)(hs:m.st<1000000000)(G:t.done=false)(U:t.next=3)(H:0<=t.at'/\t.at'<s.p):
  Calls Tryz.prog 257 #[some q,some p] w λe w'=>e=.returned (.tuple #[])/\At3 q p b w w' (CA s (EA s t m).1) 252 (EA s t m).2:=by
 have j:0<=t.at'/\t.at'<64:=by have:=T.bd;omega
 rw[CM s t m G U];have l:=ZL q p b s t m t.at' w h0 T hs H;generalize pA s.p s.c s.m t.at'=pg at*;generalize m.get pg=x at*;unfold Ad.page;have n:=λY (hY:aA Y q (CA s {t with pk:=pgK s t.at' x,pa:=pgP s t.at' x 0,pb:=pgP s t.at' x 1}) 252)=>RH q s {t with pk:=pgK s t.at' x,pa:=pgP s t.at' x 0,pb:=pgP s t.at' x 1} 3 6 Y hY j;generalize LA s.p s.c s.m t.at' x=B at*;generalize pgK s t.at' x=o at*;generalize pgP s t.at' x 0=D at*;generalize pgP s t.at' x 1=F at*;dsimp only;obtain⟨V,i,C⟩:∃V:Ad,Hid (V=if B=true/\o=4 then {t with pk:=o,pa:=D,pb:=F,next:=4} else({t with pk:=o,pa:=D,pb:=F}:Ad).turn s 3 6)/\V=_:=⟨_,hd' rfl,rfl⟩;rw[<-C];clear C j;obtain⟨sp,sc,sm⟩:=s;obtain⟨tc,td,tn,tw,b3,ta,ti,pk,pa,pb,b0,X⟩:=t;dsimp only at G U H l n i|-;subst G U;replace l:=hd' l;replace n:=hd' n;have lq:=h0.lt;have L:=h0.cell;clear T hs;go_in;go_upto_region 5 with(go_at_call 260;(with_reducible refine l.out.mono ?_);rintro r J ⟨rfl,M⟩);have y:=M.alloc (.cells #[o,D,F] 136);have O:aA (J.alloc (.cells #[o,D,F] 136)) J.heap.size #[o,D,F] 136:=jA _ _;have S:J.heap.size≠q:=λe=>by have:=M.lt;omega
 generalize J.alloc (.cells #[o,D,F] 136)=Y at*;obtain⟨E,R,z⟩:=hidv J.heap.size;simp only[<-z]at O S|-;clear z R M L l;have lY:=y.lt;have lE:=O.lt;have b1:=O.cell;have b2:=y.cell;have zf:=y.free;have N:=((y.set 10 (.int .i64 o)).set 11 (.int .i64 D)).set 12 (.int .i64 F);by_cases hc:B=true/\o=4
 .replace i:=hd' (i.out.trans (jP hc));obtain⟨rfl,rfl⟩:=hc;have hD:=((N.set 5 (.int .i64 4)));clear n;go_wp2_with fail;go_returns;exact⟨rfl,by rw[i];exact hD⟩
 replace i:=hd' (i.out.trans (jN hc));have I:B=false\/(B=true/\(o==4)=false):=by
  cases B
  .exact .inl rfl
  exact .inr ⟨rfl,by simpa using hc⟩
 clear hc;rcases I with rfl|⟨rfl,I⟩;all_goals go_wp2_with (go_at_call 261;(with_reducible refine(n _ N.row).mono ?_);rintro r w3 Z;obtain rfl:=Z.ret);go_returns;exact⟨rfl,by rw[i];exact N.turned Z⟩
theorem AY(q p b:Nat)(s:Sh)(t:Ad)(m:Mem)(w:World)(h0:At3 q p b w w (CA s t) 252 m)(J:Fits s m)(hs:m.st<1000000000)(E:t.done=false)(G:t.next=4)(I:0<=t.at'/\t.at'<s.p)(L:t.next=4->0<=t.pa/\t.pa<s.p):
  Calls Tryz.prog 257 #[some q,some p] w λe w'=>e=.returned (.tuple #[])/\At3 q p b w w' (CA s (EA s t m).1) 252 (EA s t m).2:=by
 have l:0<=t.at'/\t.at'<64:=by have:=J.bd;omega
 rw[KM s t m E G];rw[XT];have n:=ZL q p b s t m t.pa w h0 J hs (L G);have y:=λY (H:aA Y q (CA s t) 252)=>RH q s t 3 6 Y H l;generalize pA s.p s.c s.m t.pa=pg at*;generalize m.get pg=x at*;generalize LA s.p s.c s.m t.pa x=B at*;generalize pgK s t.pa x=O at*;generalize pgP s t.pa x 0=R at*;generalize pgP s t.pa x 1=Z at*;have i:=λY (H:aA Y q (CA s t) 252)=>dW q s t O R Z B Y H;generalize (B&&(O==1&&R==t.d))=o at*;dsimp only;obtain⟨M,j,C⟩:∃M:Ad,Hid (M=if o=true then {t with next:=5} else t.turn s 3 6)/\M=_:=⟨_,hd' rfl,rfl⟩;rw[<-C];clear C l;obtain⟨sp,sc,sm⟩:=s;obtain⟨tc,td,tn,tw,b0,ta,ti,pk,pa,pb,T,N⟩:=t;dsimp only at E G I n y i j|-;subst E G;replace n:=hd' n;replace y:=hd' y;replace i:=hd' i;have lq:=h0.lt;have U:=h0.cell;clear J hs;go_in;rcases(by cases o<;>simp:o=true\/o=false) with rfl|rfl
 .replace j:=hd' (j.out.trans (jP rfl));clear y;go_wp2_with (first|(go_at_call 260;(with_reducible refine n.out.mono ?_);rintro r w1 ⟨rfl,F⟩)|(go_at_call 262;(with_reducible refine(i _ F.row).mono ?_);rintro r w2 ⟨rfl,D⟩;have z:=F.below D;have V:=z.cell;have zf:=z.free));go_returns;exact⟨rfl,by rw[j];exact z.set 5 _⟩
 replace j:=hd' (j.out.trans (jN (by decide)));go_wp2_with (first|(go_at_call 260;(with_reducible refine n.out.mono ?_);rintro r w1 ⟨rfl,F⟩)|(go_at_call 262;(with_reducible refine(i _ F.row).mono ?_);rintro r w2 ⟨rfl,D⟩;have z:=F.below D;have X:=z.cell;have zf:=z.free)|(go_at_call 261;(with_reducible refine(y _ z.row).mono ?_);rintro r w3 S;obtain rfl:=S.ret));go_returns;exact⟨rfl,by rw[j];exact z.turned S⟩
theorem z9w(q p b:Nat)(s:Sh)(t:Ad)(m:Mem)(w:World)(h0:At3 q p b w w (CA s t) 252 m)(F:Fits s m)(hs:m.st<1000000000)(y:t.done=false)(G:t.next=5)(o:0<=t.at'/\t.at'<s.p):
  Calls Tryz.prog 257 #[some q,some p] w λe w'=>e=.returned (.tuple #[])/\At3 q p b w w' (CA s (EA s t m).1) 252 (EA s t m).2:=by
 have j:0<=t.at'/\t.at'<64:=by have:=F.bd;omega
 rw[AM s t m y G];obtain⟨B,z⟩:=F.page o;have i:=λY=>JB s.p s.c s.m t.at' Y;rw[B]at i|-;have n:=λY (D:oA Y p b m)=>tC p b m t.c (s.c+t.at') 0 Y D z (by decide) hs;have l:=λY (D:aA Y q (CA s t) 252)=>RH q s t 3 6 Y D j;generalize s.c+t.at'=pg at*;dsimp only;obtain⟨O,C⟩:∃O,O=t.turn s 3 6:=⟨_,rfl⟩;rw[<-C]at l|-;clear C B z F j;obtain⟨sp,V,X⟩:=s;obtain⟨tc,td,tn,tw,U,ta,ti,pk,pa,pb,R,J⟩:=t;dsimp only at y G o i n l|-;subst y G;replace i:=hd' i;replace n:=hd' n;replace l:=hd' l;have T:=h0.lt;have S:=h0.cell;clear o;go_in;go_upto_region 14 with fail;refine wret 14 ?_;repeat (go_big_quiet_step (((go_at_call 112;exact AA (i _)))))
 refine wqn λZ E=>?_;have N:=h0.below E;clear T h0;go_wp2_with (first|(go_at_call 218;(with_reducible refine(n _ N.wds).mono ?_);rintro r w2 ⟨rfl,I,H⟩;have L:=N.access I H)|(go_at_call 261;(with_reducible refine(l _ L.row).mono ?_);rintro r w3 M;obtain rfl:=M.ret));go_returns;exact⟨rfl,L.turned M⟩
theorem RY(q p b:Nat)(s:Sh)(t:Ad)(m:Mem)(w:World)(h0:At3 q p b w w (CA s t) 252 m)(J:Fits s m)(hs:m.st<1000000000)(F:t.done=false)(L:t.next=6)(H:0<=t.at'/\t.at'<s.p):
  Calls Tryz.prog 257 #[some q,some p] w λe w'=>e=.returned (.tuple #[])/\At3 q p b w w' (CA s (EA s t m).1) 252 (EA s t m).2:=by
 have n:0<=t.at'/\t.at'<64:=by have:=J.bd;omega
 rw[OM s t m F L];rw[XT];have y:=ZL q p b s t m t.at' w h0 J hs H;have z:=λY (I:aA Y q (CA s t) 252)=>RH q s t 6 9 Y I n;generalize pA s.p s.c s.m t.at'=pg at*;generalize m.get pg=x at*;generalize LA s.p s.c s.m t.at' x=B at*;generalize pgK s t.at' x=O at*;generalize pgP s t.at' x 0=R at*;generalize pgP s t.at' x 1=Z at*;have j:=λY (I:aA Y q (CA s t) 252)=>dW q s t O R Z B Y I;generalize (B&&(O==1&&R==t.d))=o at*;dsimp only;obtain⟨M,l,D⟩:∃M:Ad,Hid (M=if o=true then {t with next:=7,i:=0} else t.turn s 6 9)/\M=_:=⟨_,hd' rfl,rfl⟩;rw[<-D];clear D n;obtain⟨sp,sc,sm⟩:=s;obtain⟨tc,td,tn,tw,b0,ta,ti,pk,pa,pb,T,N⟩:=t;dsimp only at F L H y z j l|-;subst F L;replace y:=hd' y;replace z:=hd' z;replace j:=hd' j;have lq:=h0.lt;have U:=h0.cell;clear J hs;go_in;rcases(by cases o<;>simp:o=true\/o=false) with rfl|rfl
 .replace l:=hd' (l.out.trans (jP rfl));clear z;go_wp2_with (first|(go_at_call 260;(with_reducible refine y.out.mono ?_);rintro r w1 ⟨rfl,G⟩)|(go_at_call 262;(with_reducible refine(j _ G.row).mono ?_);rintro r w2 ⟨rfl,E⟩;have C:=G.below E;have V:=C.cell;have zf:=C.free));go_returns;exact⟨rfl,by rw[l];exact(C.set 5 _).set 9 _⟩
 replace l:=hd' (l.out.trans (jN (by decide)));go_wp2_with (first|(go_at_call 260;(with_reducible refine y.out.mono ?_);rintro r w1 ⟨rfl,G⟩)|(go_at_call 262;(with_reducible refine(j _ G.row).mono ?_);rintro r w2 ⟨rfl,E⟩;have C:=G.below E;have X:=C.cell;have zf:=C.free)|(go_at_call 261;(with_reducible refine(z _ C.row).mono ?_);rintro r w3 S;obtain rfl:=S.ret));go_returns;exact⟨rfl,by rw[l];exact C.turned S⟩
theorem DY(q p b:Nat)(s:Sh)(t:Ad)(m:Mem)(w:World)(h0:At3 q p b w w (CA s t) 252 m)(I:Fits s m)(hs:m.st<1000000000)(C:t.done=false)(J:t.next=7)(z:0<=t.at'/\t.at'<s.p)(hi:0<=t.i/\t.i<16):
  Calls Tryz.prog 257 #[some q,some p] w λe w'=>e=.returned (.tuple #[])/\At3 q p b w w' (CA s (EA s t m).1) 252 (EA s t m).2:=by
 have B:0<=t.at'/\t.at'<64:=by have:=I.bd;omega
 rw[xM s t m C J];obtain⟨E,D⟩:=I.slot z hi;have j:=λY=>uE s.p s.c s.m t.at' t.i Y;rw[E]at j|-;have o:=λY (X:oA Y p b m)=>tC p b m t.c (s.c+s.p+t.at'*16+t.i) 0 Y X D (by decide) hs;generalize s.c+s.p+t.at'*16+t.i=pg at*;have T:=wrp (t.i+1);have n:t.i+1=16\/(¬t.i+1=16/\(t.i+1==16)=false):=by
  by_cases h:t.i+1=16
  .exact .inl h
  exact .inr ⟨h,by simpa using h⟩
 dsimp only;obtain⟨N,l,y⟩:∃N:Ad,Hid (N=if t.i+1=16 then {t with i:=t.i+1,next:=8} else {t with i:=t.i+1})/\N=_:=⟨_,hd' rfl,rfl⟩;rw[<-y];clear y E D I B hi;obtain⟨sp,sc,sm⟩:=s;obtain⟨tc,td,tn,tw,b0,ta,ti,pk,pa,pb,S,O⟩:=t;dsimp only at C J z j o l n T|-;subst C J;replace j:=hd' j;replace o:=hd' o;replace n:=hd' n;have lq:=h0.lt;have U:=h0.cell;clear z;go_in;go_upto_region 21 with fail;refine wret 18 ?_;repeat (go_big_quiet_step (((go_at_call 114;exact AA (j _)))))
 refine wqn λZ H=>?_;have R:=h0.below H;clear lq h0;go_upto_region 23 with(first|(go_at_call 218;(with_reducible refine(o _ R.wds).mono ?_);rintro r w2 ⟨rfl,M,L⟩;have F:=R.access M L;have V:=F.cell;have zf:=F.free));have G:=F.set 9 (.int .i64 (ti+1));rcases n.out with h1|⟨h1,h2⟩
 .replace l:=hd' (l.out.trans (jP h1));rw[h1]at l G T;simp only[h1];clear n h1;go_wp2_with fail;go_returns;exact⟨rfl,by rw[l];exact G.set 5 _⟩
 replace l:=hd' (l.out.trans (jN h1));clear n h1;go_wp2_with fail;go_returns;exact⟨rfl,by rw[l];exact G⟩
theorem HY(q p b:Nat)(s:Sh)(t:Ad)(m:Mem)(w:World)(h0:At3 q p b w w (CA s t) 252 m)(F:Fits s m)(hs:m.st<1000000000)(y:t.done=false)(G:t.next=8)(o:0<=t.at'/\t.at'<s.p):
  Calls Tryz.prog 257 #[some q,some p] w λe w'=>e=.returned (.tuple #[])/\At3 q p b w w' (CA s (EA s t m).1) 252 (EA s t m).2:=by
 have j:0<=t.at'/\t.at'<64:=by have:=F.bd;omega
 rw[BM s t m y G];obtain⟨B,z⟩:=F.page o;have i:=λY=>JB s.p s.c s.m t.at' Y;rw[B]at i|-;have n:=λY (D:oA Y p b m)=>tC p b m t.c (s.c+t.at') 0 Y D z (by decide) hs;have l:=λY (D:aA Y q (CA s t) 252)=>RH q s t 6 9 Y D j;generalize s.c+t.at'=pg at*;dsimp only;obtain⟨O,C⟩:∃O,O=t.turn s 6 9:=⟨_,rfl⟩;rw[<-C]at l|-;clear C B z F j;obtain⟨sp,V,X⟩:=s;obtain⟨tc,td,tn,tw,U,ta,ti,pk,pa,pb,R,J⟩:=t;dsimp only at y G o i n l|-;subst y G;replace i:=hd' i;replace n:=hd' n;replace l:=hd' l;have T:=h0.lt;have S:=h0.cell;clear o;go_in;go_upto_region 1 with fail;refine wret 14 ?_;repeat (go_big_quiet_step (((go_at_call 112;exact AA (i _)))))
 refine wqn λZ E=>?_;have N:=h0.below E;clear T h0;go_wp2_with (first|(go_at_call 218;(with_reducible refine(n _ N.wds).mono ?_);rintro r w2 ⟨rfl,I,H⟩;have L:=N.access I H)|(go_at_call 261;(with_reducible refine(l _ L.row).mono ?_);rintro r w3 M;obtain rfl:=M.ret));go_returns;exact⟨rfl,L.turned M⟩
theorem iM(s:Sh)(t:Ad)(m:Mem)(h:t.done=false)(h0:t.next=10):EA s t m=(if LA s.p s.c s.m t.at' (m.get (pA s.p s.c s.m t.at'))=true/\pgK s t.at' (m.get (pA s.p s.c s.m t.at'))=2 then {t.page s t.at' (m.get (pA s.p s.c s.m t.at')) with next:=11,i:=0} else(t.page s t.at' (m.get (pA s.p s.c s.m t.at'))).turn s 10 13,m.load t.c (pA s.p s.c s.m t.at')):=by
 unfold EA;simp[h,h0,AT,WM]
theorem mM(s:Sh)(t:Ad)(m:Mem)(h:t.done=false)(h0:t.next=11):EA s t m=(if m.get (bB s.p s.c s.m t.at' t.i)=VA 2 t.d then {t with next:=12} else t.slot s,m.load t.c (bB s.p s.c s.m t.at' t.i)):=by
 unfold EA;simp[h,h0,wayW]
theorem qM(s:Sh)(t:Ad)(m:Mem)(h:t.done=false)(h0:t.next=12):EA s t m=(t.slot s,m.store t.c (bB s.p s.c s.m t.at' t.i) (VA 1 t.pa)):=by
 unfold EA;simp[h,h0,BB]
theorem dM(s:Sh)(t:Ad)(m:Mem)(h:t.done=false)(h0:t.next=13):EA s t m=(t.fin 0,m.store t.c (uA s.p s.c s.m t.d) (ZA 4 0)):=by
 unfold EA;simp[h,h0]
theorem z7h(q p b:Nat)(s:Sh)(t:Ad)(m:Mem)(w:World)(h0:At3 q p b w w (CA s t) 252 m)(U:Fits s m)(hs:m.st<1000000000)(H:t.done=false)(V:t.next=10)(I:0<=t.at'/\t.at'<s.p):
  Calls Tryz.prog 258 #[some q,some p] w λe w'=>e=.returned (.tuple #[])/\At3 q p b w w' (CA s (EA s t m).1) 252 (EA s t m).2:=by
 have l:0<=t.at'/\t.at'<64:=by have:=U.bd;omega
 rw[iM s t m H V];have n:=ZL q p b s t m t.at' w h0 U hs I;generalize pA s.p s.c s.m t.at'=pg at*;generalize m.get pg=x at*;unfold Ad.page;have o:=λY (hY:aA Y q (CA s {t with pk:=pgK s t.at' x,pa:=pgP s t.at' x 0,pb:=pgP s t.at' x 1}) 252)=>RH q s {t with pk:=pgK s t.at' x,pa:=pgP s t.at' x 0,pb:=pgP s t.at' x 1} 10 13 Y hY l;generalize LA s.p s.c s.m t.at' x=B at*;generalize pgK s t.at' x=y at*;generalize pgP s t.at' x 0=F at*;generalize pgP s t.at' x 1=G at*;dsimp only;obtain⟨X,j,D⟩:∃X:Ad,Hid (X=if B=true/\y=2 then {t with pk:=y,pa:=F,pb:=G,next:=11,i:=0} else({t with pk:=y,pa:=F,pb:=G}:Ad).turn s 10 13)/\X=_:=⟨_,hd' rfl,rfl⟩;rw[<-D];clear D l;obtain⟨sp,sc,sm⟩:=s;obtain⟨tc,td,tn,tw,b3,ta,ti,pk,pa,pb,b0,Z⟩:=t;dsimp only at H V I n o j|-;subst H V;replace n:=hd' n;replace o:=hd' o;have lq:=h0.lt;have M:=h0.cell;clear U hs;go_in;go_upto_region 5 with(go_at_call 260;(with_reducible refine n.out.mono ?_);rintro r L ⟨rfl,N⟩);have z:=N.alloc (.cells #[y,F,G] 136);have R:aA (L.alloc (.cells #[y,F,G] 136)) L.heap.size #[y,F,G] 136:=jA _ _;have T:L.heap.size≠q:=λe=>by have:=N.lt;omega
 generalize L.alloc (.cells #[y,F,G] 136)=Y at*;obtain⟨E,S,C⟩:=hidv L.heap.size;simp only[<-C]at R T|-;clear C S N M n;have lY:=z.lt;have lE:=R.lt;have b1:=R.cell;have b2:=z.cell;have zf:=z.free;have O:=((z.set 10 (.int .i64 y)).set 11 (.int .i64 F)).set 12 (.int .i64 G);by_cases hc:B=true/\y=2
 .replace j:=hd' (j.out.trans (jP hc));obtain⟨rfl,rfl⟩:=hc;have hD:=((O.set 5 (.int .i64 11)).set 9 (.int .i64 0));clear o;go_wp2_with fail;go_returns;exact⟨rfl,by rw[j];exact hD⟩
 replace j:=hd' (j.out.trans (jN hc));have J:B=false\/(B=true/\(y==2)=false):=by
  cases B
  .exact .inl rfl
  exact .inr ⟨rfl,by simpa using hc⟩
 clear hc;rcases J with rfl|⟨rfl,J⟩;all_goals go_wp2_with (go_at_call 261;(with_reducible refine(o _ O.row).mono ?_);rintro r w3 hT;obtain rfl:=hT.ret);go_returns;exact⟨rfl,by rw[j];exact O.turned hT⟩
theorem z7x(q p b:Nat)(s:Sh)(t:Ad)(m:Mem)(w:World)(h0:At3 q p b w w (CA s t) 252 m)(L:Fits s m)(hs:m.st<1000000000)(H:t.done=false)(X:t.next=11)(G:0<=t.at'/\t.at'<s.p)(hi:0<=t.i/\t.i<16):
  Calls Tryz.prog 258 #[some q,some p] w λe w'=>e=.returned (.tuple #[])/\At3 q p b w w' (CA s (EA s t m).1) 252 (EA s t m).2:=by
 have n:0<=t.at'/\t.at'<64:=by have:=L.bd;omega
 rw[mM s t m H X];obtain⟨O,N⟩:=L.slot G hi;have j:=λY=>uE s.p s.c s.m t.at' t.i Y;rw[O]at j|-;have o:=λY (U:oA Y p b m)=>uF p b m t.c (s.c+s.p+t.at'*16+t.i) Y U N hs;have z:=λY=>tE 2 t.d Y;have C:=λY (U:aA Y q (CA s t) 252)=>oV q s t Y U n hi;generalize s.c+s.p+t.at'*16+t.i=pg at*;generalize m.get pg=x at*;generalize VA 2 t.d=y at*;dsimp only;obtain⟨t2,l,E⟩:∃t2:Ad,Hid (t2=if x=y then {t with next:=12} else t.slot s)/\t2=_:=⟨_,hd' rfl,rfl⟩;rw[<-E];clear E O N L n hi;obtain⟨sp,Z,sm⟩:=s;obtain⟨S,td,tn,tw,I,ta,ti,pk,pa,pb,D,b0⟩:=t;dsimp only at H X G j o z C l|-;subst H X;replace j:=hd' j;replace o:=hd' o;replace z:=hd' z;replace C:=hd' C;have lq:=h0.lt;have T:=h0.cell;clear G;go_in;go_upto_region 10 with fail
 refine wrl (x:=MA 2) (ld:=18) (v:=.int .u64 x) (ts:=[60,64,77])
  (K0:=λY=>At3 q p b w Y (CA ⟨sp,Z,sm⟩ ⟨S,td,11,tw,I,ta,ti,pk,pa,pb,D,false⟩) 252 m) (K1:=λY=>At3 q p b w Y (CA ⟨sp,Z,sm⟩ ⟨S,td,11,tw,I,ta,ti,pk,pa,pb,D,false⟩) 252 (m.load S pg))
  ⟨⟨λY Y' h1 h2 h3=>h1.far h2 h3 h0.only.size⟩,⟨λY Y' h1 h2 h3=>h1.far h2 h3 h0.only.size⟩⟩ h0.drew ?_
 apply Exists.intro;refine⟨λB hb hs=>?_,λh=>(by simp[MA]at h),?_,?_⟩;case refine_1=>
  have R:aA B q (CA ⟨sp,Z,sm⟩ ⟨S,td,11,tw,I,ta,ti,pk,pa,pb,D,false⟩) 252:=hb.elim (λh=>h.row) (λh=>h.row);have lB:=R.lt;have b2:=R.cell;repeat (go_big_quiet_step ((first|(go_at_call 114;exact AA (j _))|(go_at_call 141;exact AA (z _)))))
  exact wpQuiet_nil rfl
 case refine_2=>exact vF rfl (λ_ _=>by simp[go_sem]) λY F hs=>(o Y F.wds).mono λr Y' ⟨h1,h2,h3⟩=>⟨h1,F.load h2 h3,h3.weak λk V=>V▸Nat.lt_of_lt_of_le F.ls.2.1 h0.only.size⟩
 case refine_3=>
  intro a w4 M L;obtain⟨rfl,b1,J,_⟩:=L;simp only[MA,vput,List.size_toArray,List.length_cons,List.length_nil,Nat.reduceAdd,Nat.reduceLT,decide_false,Bool.false_eq_true,if_false];have b3:=J.cell;have zf:=J.free;have lA:=J.lt;clear h0 o j z T;rcases(by by_cases h:x=y<;>simp[h]:x=y\/(x≠y/\(x==y)=false)) with rfl|⟨V,hk2⟩
  .replace l:=hd' (l.out.trans (jP rfl));clear C;go_wp2_with fail;go_returns;exact⟨rfl,by rw[l];exact J.set 5 _⟩
  replace l:=hd' (l.out.trans (jN V));go_wp2_with (go_at_call 255;(with_reducible refine(C _ J.row).mono ?_);rintro r w3 hT;obtain rfl:=hT.ret);go_returns;exact⟨rfl,by rw[l];exact J.turned hT⟩
theorem z6v(q p b:Nat)(s:Sh)(t:Ad)(m:Mem)(w:World)(h0:At3 q p b w w (CA s t) 252 m)(I:Fits s m)(hs:m.st<1000000000)(C:t.done=false)(J:t.next=12)(B:0<=t.at'/\t.at'<s.p)(hi:0<=t.i/\t.i<16):
  Calls Tryz.prog 258 #[some q,some p] w λe w'=>e=.returned (.tuple #[])/\At3 q p b w w' (CA s (EA s t m).1) 252 (EA s t m).2:=by
 have l:0<=t.at'/\t.at'<64:=by have:=I.bd;omega
 rw[qM s t m C J];obtain⟨E,D⟩:=I.slot B hi;have j:=λY=>uE s.p s.c s.m t.at' t.i Y;rw[E]at j|-;have z:=λY (G:oA Y p b m)=>tC p b m t.c (s.c+s.p+t.at'*16+t.i) (VA 1 t.pa) Y G D (IE _ _) hs;have o:=λY=>tE 1 t.pa Y;have n:=λY (G:aA Y q (CA s t) 252)=>oV q s t Y G l hi;generalize s.c+s.p+t.at'*16+t.i=pg at*;generalize VA 1 t.pa=y at*;dsimp only;obtain⟨T,F⟩:∃T,T=t.slot s:=⟨_,rfl⟩;rw[<-F]at n|-;clear F E D I l hi;obtain⟨sp,sc,sm⟩:=s;obtain⟨tc,td,tn,tw,b0,ta,ti,pk,pa,pb,U,N⟩:=t;dsimp only at C J B j z o n|-;subst C J;replace j:=hd' j;replace z:=hd' z;replace o:=hd' o;replace n:=hd' n;have X:=h0.lt;have V:=h0.cell;clear B;go_in;go_upto_region 14 with fail;refine wret 25 ?_;repeat (go_big_quiet_step ((first|(go_at_call 114;exact AA (j _))|(go_at_call 141;exact AA (o _)))))
 refine wqn λZ H=>?_;have S:=h0.below H;clear X h0;go_wp2_with (first|(go_at_call 218;(with_reducible refine(z _ S.wds).mono ?_);rintro r w2 ⟨rfl,M,L⟩;have O:=S.access M L)|(go_at_call 255;(with_reducible refine(n _ O.row).mono ?_);rintro r w3 R;obtain rfl:=R.ret));go_returns;exact⟨rfl,O.turned R⟩
theorem z7k(q p b:Nat)(s:Sh)(t:Ad)(m:Mem)(w:World)(h0:At3 q p b w w (CA s t) 252 m)(H:Fits s m)(hs:m.st<1000000000)(z:t.done=false)(I:t.next=13)(B:0<=t.at'/\t.at'<s.p)(hd:0<=t.d/\t.d<s.c):
  Calls Tryz.prog 258 #[some q,some p] w λe w'=>e=.returned (.tuple #[])/\At3 q p b w w' (CA s (EA s t m).1) 252 (EA s t m).2:=by
 have o:0<=t.at'/\t.at'<64:=by have:=H.bd;omega
 rw[dM s t m z I];obtain⟨D,C⟩:=H.status hd;have i:=λY=>pC s.p s.c s.m t.d Y;rw[D]at i|-;have n:=λY (F:oA Y p b m)=>tC p b m t.c t.d (ZA 4 0) Y F C (QH _ _) hs;have l:=λY=>YJ 4 0 Y;have j:=λY (F:aA Y q (CA s t) 252)=>fK q s t 0 Y F;generalize ZA 4 0=y at*;dsimp only;obtain⟨S,E⟩:∃S,S=t.fin 0:=⟨_,rfl⟩;rw[<-E]at j|-;clear E D C H o hd;obtain⟨sp,sc,sm⟩:=s;obtain⟨tc,td,tn,tw,X,ta,ti,pk,pa,pb,T,M⟩:=t;dsimp only at z I B i n l j|-;subst z I;replace i:=hd' i;replace n:=hd' n;replace l:=hd' l;replace j:=hd' j;have V:=h0.lt;have U:=h0.cell;clear B;go_in;go_upto_region 1 with fail;refine wret 15 ?_;repeat (go_big_quiet_step ((first|(go_at_call 44;exact AA (i _))|(go_at_call 100;exact AA (l _)))))
 refine wqn λZ G=>?_;have R:=h0.below G;clear V h0;go_wp2_with (first|(go_at_call 218;(with_reducible refine(n _ R.wds).mono ?_);rintro r w2 ⟨rfl,L,J⟩;have N:=R.access L J)|(go_at_call 152;(with_reducible refine(j _ N.row).mono ?_);rintro r w3 O;obtain rfl:=O.ret));go_returns;exact⟨rfl,N.turned O⟩
end Go.Proofs.YtkilokkopbajkaaGreat

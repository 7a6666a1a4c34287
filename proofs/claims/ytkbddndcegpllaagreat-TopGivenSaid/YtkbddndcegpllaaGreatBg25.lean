/- Texts bound together: AdF AdG AdH. -/
import Derived.Test.YtkbddndcegpllaaGreatBg24

set_option linter.all false
set_option maxHeartbeats 2000000
set_option maxRecDepth 100000
namespace Go.Proofs.YtkbddndcegpllaaGreat

open Go.RowKit

attribute [local go_sem ↓] Go.wp_at_zero Go.wp_at_succ

def Ad.page (s:Sh) (t:Ad) (a x:Int):Ad:= { t with pk:=pgK s a x,pa:=pgP s a x 0,pb:=pgP s a x 1 }
theorem z1l(s:Sh)(t:Ad)(a x:Int):t.keep s a x=t.page s a x:=rfl
theorem zpw(s:Sh)(a x k:Int):(zal s.p s.c s.m a x=true/\zbx x=k)↔(zal s.p s.c s.m a x=true/\pgK s a x=k):=by
 unfold pgK;cases zal s.p s.c s.m a x<;>simp
theorem z8q(s:Sh)(t:Ad)(a x:Int):t.own s a x=(zal s.p s.c s.m a x&&(pgK s a x==1&&pgP s a x 0==t.d)):=by
 unfold Ad.own pgK pgP;cases zal s.p s.c s.m a x<;>simp
theorem zl7(s:Sh)(t:Ad)(m:Mem)(h:t.done=false)(b:t.next=3):za0 s t m=(if zal s.p s.c s.m t.at' (m.get (zak s.p s.c s.m t.at'))=true/\pgK s t.at' (m.get (zak s.p s.c s.m t.at'))=4 then { t.page s t.at' (m.get (zak s.p s.c s.m t.at')) with next:=4} else(t.page s t.at' (m.get (zak s.p s.c s.m t.at'))).turn s 3 6,m.load t.c (zak s.p s.c s.m t.at')):=by
 unfold za0;simp[h,b,z1l,zpw]
theorem zmc(s:Sh)(t:Ad)(m:Mem)(h:t.done=false)(b:t.next=4):za0 s t m=(if t.own s t.pa (m.get (zak s.p s.c s.m t.pa))=true then {t with next:=5} else t.turn s 3 6,m.load t.c (zak s.p s.c s.m t.pa)):=by
 unfold za0;simp[h,b]
theorem zl5(s:Sh)(t:Ad)(m:Mem)(h:t.done=false)(b:t.next=5):za0 s t m=(t.turn s 3 6,m.store t.c (zak s.p s.c s.m t.at') 0):=by
 unfold za0;simp[h,b]
theorem zmg(s:Sh)(t:Ad)(m:Mem)(h:t.done=false)(b:t.next=6):za0 s t m=(if t.own s t.at' (m.get (zak s.p s.c s.m t.at'))=true then {t with next:=7,i:=0} else t.turn s 6 9,m.load t.c (zak s.p s.c s.m t.at')):=by
 unfold za0;simp[h,b]
theorem zl3(s:Sh)(t:Ad)(m:Mem)(h:t.done=false)(b:t.next=7):za0 s t m=(if t.i+1=16 then {t with i:=t.i+1,next:=8} else {t with i:=t.i+1},m.store t.c (zbk s.p s.c s.m t.at' t.i) 0):=by
 unfold za0;simp[h,b]
theorem zl6(s:Sh)(t:Ad)(m:Mem)(h:t.done=false)(b:t.next=8):za0 s t m=(t.turn s 6 9,m.store t.c (zak s.p s.c s.m t.at') 0):=by
 unfold za0;simp[h,b]
theorem z9q(q p b:Nat)(s:Sh)(t:Ad)(m:Mem)(w:World)(L:At3 q p b w w (zan s t) 282 m)(T:Fits s m)(hs:m.st<1000000000)(G:t.done=false)(U:t.next=3)(H:0<=t.at'/\t.at'<s.p):
  Calls Tryz.prog 296 #[.pointer (some ⟨q,0,.none⟩),.pointer (some ⟨p,0,.none⟩)] w fun e w'=>e= .returned (.tuple #[])/\At3 q p b w w' (zan s (za0 s t m).1) 282 (za0 s t m).2:=by
 have n:0<=t.at'/\t.at'<64:=by have:=T.bd;omega
 rw[zl7 s t m G U];have o:=zim q p b s t m t.at' w L T hs H;generalize zak s.p s.c s.m t.at'=pg at *;generalize m.get pg=x at *;unfold Ad.page;have y:=fun Y (hY:zaa Y q (zan s {t with pk:=pgK s t.at' x,pa:=pgP s t.at' x 0,pb:=pgP s t.at' x 1}) 282)=>zek q s {t with pk:=pgK s t.at' x,pa:=pgP s t.at' x 0,pb:=pgP s t.at' x 1} 3 6 Y hY n;generalize zal s.p s.c s.m t.at' x=B at *;generalize pgK s t.at' x=l at *;generalize pgP s t.at' x 0=z at *;generalize pgP s t.at' x 1=C at *;dsimp only;obtain⟨V,j,F⟩:∃ V:Ad,Hid (V=if B=true/\l=4 then {t with pk:=l,pa:=z,pb:=C,next:=4} else({t with pk:=l,pa:=z,pb:=C}:Ad).turn s 3 6)/\V=_:=⟨_,hd' rfl,rfl⟩;rw[<-F];clear F n;obtain⟨sp,sc,sm⟩:=s;obtain⟨tc,td,tn,tw,b4,ta,ti,pk,pa,pb,b0,X⟩:=t;dsimp only at G U H o y j ⊢;subst G U;replace o:=hd' o;replace y:=hd' y;have lq:=L.lt;have Z:=ci 3 (L.cell 5);have c8:=ci ta (L.cell 8);clear T hs;go_in;go_upto_region 5 with(go_at_call 299;(with_reducible refine o.out.mono ?_);rintro r J ⟨rfl,M⟩);have i:=M.alloc (.cells #[.int .i64 l,.int .i64 z,.int .i64 C] 128);have O:zaa (J.alloc (.cells #[.int .i64 l,.int .i64 z,.int .i64 C] 128)) J.heap.size #[.int .i64 l,.int .i64 z,.int .i64 C] 128:=heap_alloc_new _ _;have S:J.heap.size≠q:=fun e=>by have:=M.lt;omega
 generalize J.alloc (.cells #[.int .i64 l,.int .i64 z,.int .i64 C] 128)=Y at *;obtain⟨E,R,D⟩:=hidv J.heap.size;simp only[<-D]at O S ⊢;clear D R M Z c8 o;have lY:=i.lt;have lE:=O.lt;obtain⟨g0,g1,g2⟩:=ci3 l z C O.cell;have Z:=ci 3 (i.cell 5);have c9:=ci ti (i.cell 9);have b1:=ci pk (i.cell 10);have b2:=ci pa (i.cell 11);have b3:=ci pb (i.cell 12);have zf:=i.free;have N:=((i.set 10 (.int .i64 l)).set 11 (.int .i64 z)).set 12 (.int .i64 C);by_cases hc:B=true/\l=4
 ·replace j:=hd' (j.out.trans (if_pos hc));obtain⟨rfl,rfl⟩:=hc;have hD:=((N.set 5 (.int .i64 4)));clear y;go_wp2_with fail;go_returns;exact⟨rfl,by rw[j.out];exact hD⟩
 replace j:=hd' (j.out.trans (if_neg hc));have I:B=false\/(B=true/\(l==4)=false):=by
  cases B
  ·exact .inl rfl
  exact .inr ⟨rfl,by simpa using hc⟩
 clear hc;rcases I with rfl|⟨rfl,I⟩;all_goals go_wp2_with (go_at_call 300;(with_reducible refine(y.out _ N.row).mono ?_);rintro r w3 hT;obtain rfl:=hT.ret);go_returns;exact⟨rfl,by rw[j.out];exact N.turned hT⟩
theorem yak(q p b:Nat)(s:Sh)(t:Ad)(m:Mem)(w:World)(G:At3 q p b w w (zan s t) 282 m)(L:Fits s m)(hs:m.st<1000000000)(E:t.done=false)(H:t.next=4)(J:0<=t.at'/\t.at'<s.p)(M:t.next=4->0<=t.pa/\t.pa<s.p):
  Calls Tryz.prog 296 #[.pointer (some ⟨q,0,.none⟩),.pointer (some ⟨p,0,.none⟩)] w fun e w'=>e= .returned (.tuple #[])/\At3 q p b w w' (zan s (za0 s t m).1) 282 (za0 s t m).2:=by
 have l:0<=t.at'/\t.at'<64:=by have:=L.bd;omega
 rw[zmc s t m E H];rw[z8q];have n:=zim q p b s t m t.pa w G L hs (M H);have y:=fun Y (I:zaa Y q (zan s t) 282)=>zek q s t 3 6 Y I l;generalize zak s.p s.c s.m t.pa=pg at *;generalize m.get pg=x at *;generalize zal s.p s.c s.m t.pa x=B at *;generalize pgK s t.pa x=R at *;generalize pgP s t.pa x 0=S at *;generalize pgP s t.pa x 1=Z at *;have i:=fun Y (I:zaa Y q (zan s t) 282)=>zr3 q s t R S Z B Y I;generalize (B&&(R==1&&S==t.d))=o at *;dsimp only;obtain⟨N,j,C⟩:∃ N:Ad,Hid (N=if o=true then {t with next:=5} else t.turn s 3 6)/\N=_:=⟨_,hd' rfl,rfl⟩;rw[<-C];clear C l;obtain⟨sp,sc,sm⟩:=s;obtain⟨tc,td,tn,tw,b0,ta,V,pk,pa,pb,U,O⟩:=t;dsimp only at E H J n y i j ⊢;subst E H;replace n:=hd' n;replace y:=hd' y;replace i:=hd' i;have lq:=G.lt;have c5:=ci 4 (G.cell 5);have X:=ci pa (G.cell 11);clear L hs;go_in;rcases(by cases o<;>simp:o=true\/o=false) with rfl|rfl
 ·replace j:=hd' (j.out.trans (if_pos rfl));clear y;go_wp2_with (first|(go_at_call 299;(with_reducible refine n.out.mono ?_);rintro r w1 ⟨rfl,F⟩)|(go_at_call 301;(with_reducible refine(i.out _ F.row).mono ?_);rintro r w2 ⟨rfl,D⟩;have z:=F.below D;have k5:=ci 4 (z.cell 5);have k9:=ci V (z.cell 9);have zf:=z.free));go_returns;exact⟨rfl,by rw[j.out];exact z.set 5 _⟩
 replace j:=hd' (j.out.trans (if_neg (by decide)));go_wp2_with (first|(go_at_call 299;(with_reducible refine n.out.mono ?_);rintro r w1 ⟨rfl,F⟩)|(go_at_call 301;(with_reducible refine(i.out _ F.row).mono ?_);rintro r w2 ⟨rfl,D⟩;have z:=F.below D;have k5:=ci 4 (z.cell 5);have k9:=ci V (z.cell 9);have zf:=z.free)|(go_at_call 300;(with_reducible refine(y.out _ z.row).mono ?_);rintro r w3 T;obtain rfl:=T.ret));go_returns;exact⟨rfl,by rw[j.out];exact z.turned T⟩
theorem z9w(q p b:Nat)(s:Sh)(t:Ad)(m:Mem)(w:World)(z:At3 q p b w w (zan s t) 282 m)(F:Fits s m)(hs:m.st<1000000000)(y:t.done=false)(G:t.next=5)(o:0<=t.at'/\t.at'<s.p):
  Calls Tryz.prog 296 #[.pointer (some ⟨q,0,.none⟩),.pointer (some ⟨p,0,.none⟩)] w fun e w'=>e= .returned (.tuple #[])/\At3 q p b w w' (zan s (za0 s t m).1) 282 (za0 s t m).2:=by
 have j:0<=t.at'/\t.at'<64:=by have:=F.bd;omega
 rw[zl5 s t m y G];obtain⟨C,B⟩:=F.page o;have i:=fun Y=>planPage_any s.p s.c s.m t.at' Y;rw[C]at i ⊢;have n:=fun Y (E:zaq Y p b m)=>zba p b m t.c (s.c+t.at') 0 Y E B (by decide) hs;have l:=fun Y (E:zaa Y q (zan s t) 282)=>zek q s t 3 6 Y E j;generalize s.c+t.at'=pg at *;dsimp only;obtain⟨R,D⟩:∃ R,R=t.turn s 3 6:=⟨_,rfl⟩;rw[<-D]at l ⊢;clear D C B F j;obtain⟨sp,U,V⟩:=s;obtain⟨tc,td,tn,tw,b0,X,ti,pk,pa,pb,S,J⟩:=t;dsimp only at y G o i n l ⊢;subst y G;replace i:=hd' i;replace n:=hd' n;replace l:=hd' l;have T:=z.lt;obtain⟨c0,c1,c2,c3⟩:=ci4 sp U V tc z.cell;have c5:=ci 5 (z.cell 5);have c8:=ci X (z.cell 8);clear o;go_in;go_upto_region 14 with fail;refine zad 14 (by kernel_rfl) (by kernel_rfl) ?_;dsimp only[List.take,List.drop];repeat (go_big_quiet_step (((go_at_call 119;exact zam (i.out _)))))
 refine wpQuiet_nil ?_;rintro _ ⟨L,rfl⟩;have O:=z.below L.below;generalize L.w=Z at *;change wpList _ _ _ _ _ Z;clear T z;go_wp2_with (first|(go_at_call 257;(with_reducible refine(n.out _ O.wds).mono ?_);rintro r w2 ⟨rfl,I,H⟩;have M:=O.access I H)|(go_at_call 300;(with_reducible refine(l.out _ M.row).mono ?_);rintro r w3 N;obtain rfl:=N.ret));go_returns;exact⟨rfl,M.turned N⟩
theorem yb9(q p b:Nat)(s:Sh)(t:Ad)(m:Mem)(w:World)(I:At3 q p b w w (zan s t) 282 m)(L:Fits s m)(hs:m.st<1000000000)(F:t.done=false)(M:t.next=6)(H:0<=t.at'/\t.at'<s.p):
  Calls Tryz.prog 296 #[.pointer (some ⟨q,0,.none⟩),.pointer (some ⟨p,0,.none⟩)] w fun e w'=>e= .returned (.tuple #[])/\At3 q p b w w' (zan s (za0 s t m).1) 282 (za0 s t m).2:=by
 have n:0<=t.at'/\t.at'<64:=by have:=L.bd;omega
 rw[zmg s t m F M];rw[z8q];have y:=zim q p b s t m t.at' w I L hs H;have z:=fun Y (J:zaa Y q (zan s t) 282)=>zek q s t 6 9 Y J n;generalize zak s.p s.c s.m t.at'=pg at *;generalize m.get pg=x at *;generalize zal s.p s.c s.m t.at' x=B at *;generalize pgK s t.at' x=R at *;generalize pgP s t.at' x 0=S at *;generalize pgP s t.at' x 1=X at *;have j:=fun Y (J:zaa Y q (zan s t) 282)=>zr3 q s t R S X B Y J;generalize (B&&(R==1&&S==t.d))=o at *;dsimp only;obtain⟨N,l,D⟩:∃ N:Ad,Hid (N=if o=true then {t with next:=7,i:=0} else t.turn s 6 9)/\N=_:=⟨_,hd' rfl,rfl⟩;rw[<-D];clear D n;obtain⟨sp,sc,sm⟩:=s;obtain⟨tc,td,tn,tw,b0,ta,V,pk,pa,pb,U,O⟩:=t;dsimp only at F M H y z j l ⊢;subst F M;replace y:=hd' y;replace z:=hd' z;replace j:=hd' j;have lq:=I.lt;have c5:=ci 6 (I.cell 5);have c8:=ci ta (I.cell 8);clear L hs;go_in;rcases(by cases o<;>simp:o=true\/o=false) with rfl|rfl
 ·replace l:=hd' (l.out.trans (if_pos rfl));clear z;go_wp2_with (first|(go_at_call 299;(with_reducible refine y.out.mono ?_);rintro r w1 ⟨rfl,G⟩)|(go_at_call 301;(with_reducible refine(j.out _ G.row).mono ?_);rintro r w2 ⟨rfl,E⟩;have C:=G.below E;have Z:=ci 6 (C.cell 5);have k9:=ci V (C.cell 9);have zf:=C.free));go_returns;exact⟨rfl,by rw[l.out];exact(C.set 5 _).set 9 _⟩
 replace l:=hd' (l.out.trans (if_neg (by decide)));go_wp2_with (first|(go_at_call 299;(with_reducible refine y.out.mono ?_);rintro r w1 ⟨rfl,G⟩)|(go_at_call 301;(with_reducible refine(j.out _ G.row).mono ?_);rintro r w2 ⟨rfl,E⟩;have C:=G.below E;have Z:=ci 6 (C.cell 5);have k9:=ci V (C.cell 9);have zf:=C.free)|(go_at_call 300;(with_reducible refine(z.out _ C.row).mono ?_);rintro r w3 T;obtain rfl:=T.ret));go_returns;exact⟨rfl,by rw[l.out];exact C.turned T⟩
theorem yap(q p b:Nat)(s:Sh)(t:Ad)(m:Mem)(w:World)(z:At3 q p b w w (zan s t) 282 m)(J:Fits s m)(hs:m.st<1000000000)(E:t.done=false)(L:t.next=7)(C:0<=t.at'/\t.at'<s.p)(hi:0<=t.i/\t.i<16):
  Calls Tryz.prog 296 #[.pointer (some ⟨q,0,.none⟩),.pointer (some ⟨p,0,.none⟩)] w fun e w'=>e= .returned (.tuple #[])/\At3 q p b w w' (zan s (za0 s t m).1) 282 (za0 s t m).2:=by
 have D:0<=t.at'/\t.at'<64:=by have:=J.bd;omega
 rw[zl3 s t m E L];obtain⟨G,F⟩:=J.slot C hi;have j:=fun Y=>zbm s.p s.c s.m t.at' t.i Y;rw[G]at j ⊢;have o:=fun Y (hY:zaq Y p b m)=>zba p b m t.c (s.c+s.p+t.at'*16+t.i) 0 Y hY F (by decide) hs;generalize s.c+s.p+t.at'*16+t.i=pg at *;have X:=wrp (t.i+1);have n:t.i+1=16\/(¬ t.i+1=16/\(t.i+1==16)=false):=by
  by_cases h:t.i+1=16
  ·exact .inl h
  exact .inr ⟨h,by simpa using h⟩
 dsimp only;obtain⟨O,l,y⟩:∃ O:Ad,Hid (O=if t.i+1=16 then {t with i:=t.i+1,next:=8} else {t with i:=t.i+1})/\O=_:=⟨_,hd' rfl,rfl⟩;rw[<-y];clear y G F J D hi;obtain⟨sp,sc,sm⟩:=s;obtain⟨tc,td,tn,tw,b0,ta,S,pk,pa,pb,V,R⟩:=t;dsimp only at E L C j o l n X ⊢;subst E L;replace j:=hd' j;replace o:=hd' o;replace n:=hd' n;have lq:=z.lt;obtain⟨c0,c1,c2,c3⟩:=ci4 sp sc sm tc z.cell;have c5:=ci 7 (z.cell 5);have c8:=ci ta (z.cell 8);have c9:=ci S (z.cell 9);clear C;go_in;go_upto_region 21 with fail;refine zad 18 (by kernel_rfl) (by kernel_rfl) ?_;dsimp only[List.take,List.drop];repeat (go_big_quiet_step (((go_at_call 121;exact zam (j.out _)))))
 refine wpQuiet_nil ?_;rintro _ ⟨T,rfl⟩;have U:=z.below T.below;generalize T.w=Z at *;change wpList _ _ _ _ _ Z;clear lq z;go_upto_region 23 with(first|(go_at_call 257;(with_reducible refine(o.out _ U.wds).mono ?_);rintro r w2 ⟨rfl,N,M⟩;have H:=U.access N M;have k5:=ci 7 (H.cell 5);have k9:=ci S (H.cell 9);have zf:=H.free));have I:=H.set 9 (.int .i64 (S+1));rcases n.out with B|⟨B,h2⟩
 ·replace l:=hd' (l.out.trans (if_pos B));rw[B]at l I X;simp only[B];clear n B;go_wp2_with fail;go_returns;exact⟨rfl,by rw[l.out];exact I.set 5 _⟩
 replace l:=hd' (l.out.trans (if_neg B));clear n B;go_wp2_with fail;go_returns;exact⟨rfl,by rw[l.out];exact I⟩
theorem yau(q p b:Nat)(s:Sh)(t:Ad)(m:Mem)(w:World)(z:At3 q p b w w (zan s t) 282 m)(F:Fits s m)(hs:m.st<1000000000)(y:t.done=false)(G:t.next=8)(o:0<=t.at'/\t.at'<s.p):
  Calls Tryz.prog 296 #[.pointer (some ⟨q,0,.none⟩),.pointer (some ⟨p,0,.none⟩)] w fun e w'=>e= .returned (.tuple #[])/\At3 q p b w w' (zan s (za0 s t m).1) 282 (za0 s t m).2:=by
 have j:0<=t.at'/\t.at'<64:=by have:=F.bd;omega
 rw[zl6 s t m y G];obtain⟨C,B⟩:=F.page o;have i:=fun Y=>planPage_any s.p s.c s.m t.at' Y;rw[C]at i ⊢;have n:=fun Y (E:zaq Y p b m)=>zba p b m t.c (s.c+t.at') 0 Y E B (by decide) hs;have l:=fun Y (E:zaa Y q (zan s t) 282)=>zek q s t 6 9 Y E j;generalize s.c+t.at'=pg at *;dsimp only;obtain⟨R,D⟩:∃ R,R=t.turn s 6 9:=⟨_,rfl⟩;rw[<-D]at l ⊢;clear D C B F j;obtain⟨sp,U,V⟩:=s;obtain⟨tc,td,tn,tw,b0,X,ti,pk,pa,pb,S,J⟩:=t;dsimp only at y G o i n l ⊢;subst y G;replace i:=hd' i;replace n:=hd' n;replace l:=hd' l;have T:=z.lt;obtain⟨c0,c1,c2,c3⟩:=ci4 sp U V tc z.cell;have c5:=ci 8 (z.cell 5);have c8:=ci X (z.cell 8);clear o;go_in;go_upto_region 1 with fail;refine zad 14 (by kernel_rfl) (by kernel_rfl) ?_;dsimp only[List.take,List.drop];repeat (go_big_quiet_step (((go_at_call 119;exact zam (i.out _)))))
 refine wpQuiet_nil ?_;rintro _ ⟨L,rfl⟩;have O:=z.below L.below;generalize L.w=Z at *;change wpList _ _ _ _ _ Z;clear T z;go_wp2_with (first|(go_at_call 257;(with_reducible refine(n.out _ O.wds).mono ?_);rintro r w2 ⟨rfl,I,H⟩;have M:=O.access I H)|(go_at_call 300;(with_reducible refine(l.out _ M.row).mono ?_);rintro r w3 N;obtain rfl:=N.ret));go_returns;exact⟨rfl,M.turned N⟩
theorem zjn(s:Sh)(t:Ad)(m:Mem)(h:t.done=false)(b:t.next=10):za0 s t m=(if zal s.p s.c s.m t.at' (m.get (zak s.p s.c s.m t.at'))=true/\pgK s t.at' (m.get (zak s.p s.c s.m t.at'))=2 then { t.page s t.at' (m.get (zak s.p s.c s.m t.at')) with next:=11,i:=0} else(t.page s t.at' (m.get (zak s.p s.c s.m t.at'))).turn s 10 13,m.load t.c (zak s.p s.c s.m t.at')):=by
 unfold za0;simp[h,b,z1l,zpw]
theorem zju(s:Sh)(t:Ad)(m:Mem)(h:t.done=false)(b:t.next=11):za0 s t m=(if m.get (zbk s.p s.c s.m t.at' t.i)=zc3 2 t.d then {t with next:=12} else t.slot s,m.load t.c (zbk s.p s.c s.m t.at' t.i)):=by
 unfold za0;simp[h,b,wayW]
theorem zkg(s:Sh)(t:Ad)(m:Mem)(h:t.done=false)(b:t.next=12):za0 s t m=(t.slot s,m.store t.c (zbk s.p s.c s.m t.at' t.i) (zc3 1 t.pa)):=by
 unfold za0;simp[h,b,zc8]
theorem zj8(s:Sh)(t:Ad)(m:Mem)(h:t.done=false)(b:t.next=13):za0 s t m=(t.fin 0,m.store t.c (zae s.p s.c s.m t.d) (za8 4 0)):=by
 unfold za0;simp[h,b]
theorem z7h(q p b:Nat)(s:Sh)(t:Ad)(m:Mem)(w:World)(M:At3 q p b w w (zan s t) 282 m)(U:Fits s m)(hs:m.st<1000000000)(H:t.done=false)(V:t.next=10)(I:0<=t.at'/\t.at'<s.p):
  Calls Tryz.prog 297 #[.pointer (some ⟨q,0,.none⟩),.pointer (some ⟨p,0,.none⟩)] w fun e w'=>e= .returned (.tuple #[])/\At3 q p b w w' (zan s (za0 s t m).1) 282 (za0 s t m).2:=by
 have o:0<=t.at'/\t.at'<64:=by have:=U.bd;omega
 rw[zjn s t m H V];have y:=zim q p b s t m t.at' w M U hs I;generalize zak s.p s.c s.m t.at'=pg at *;generalize m.get pg=x at *;unfold Ad.page;have z:=fun Y (hY:zaa Y q (zan s {t with pk:=pgK s t.at' x,pa:=pgP s t.at' x 0,pb:=pgP s t.at' x 1}) 282)=>zek q s {t with pk:=pgK s t.at' x,pa:=pgP s t.at' x 0,pb:=pgP s t.at' x 1} 10 13 Y hY o;generalize zal s.p s.c s.m t.at' x=B at *;generalize pgK s t.at' x=n at *;generalize pgP s t.at' x 0=C at *;generalize pgP s t.at' x 1=D at *;dsimp only;obtain⟨X,l,G⟩:∃ X:Ad,Hid (X=if B=true/\n=2 then {t with pk:=n,pa:=C,pb:=D,next:=11,i:=0} else({t with pk:=n,pa:=C,pb:=D}:Ad).turn s 10 13)/\X=_:=⟨_,hd' rfl,rfl⟩;rw[<-G];clear G o;obtain⟨sp,sc,sm⟩:=s;obtain⟨tc,td,tn,tw,b4,ta,ti,pk,pa,pb,b0,Z⟩:=t;dsimp only at H V I y z l ⊢;subst H V;replace y:=hd' y;replace z:=hd' z;have lq:=M.lt;have c5:=ci 10 (M.cell 5);have c8:=ci ta (M.cell 8);clear U hs;go_in;go_upto_region 5 with(go_at_call 299;(with_reducible refine y.out.mono ?_);rintro r L ⟨rfl,N⟩);have j:=N.alloc (.cells #[.int .i64 n,.int .i64 C,.int .i64 D] 128);have R:zaa (L.alloc (.cells #[.int .i64 n,.int .i64 C,.int .i64 D] 128)) L.heap.size #[.int .i64 n,.int .i64 C,.int .i64 D] 128:=heap_alloc_new _ _;have T:L.heap.size≠q:=fun e=>by have:=N.lt;omega
 generalize L.alloc (.cells #[.int .i64 n,.int .i64 C,.int .i64 D] 128)=Y at *;obtain⟨E,S,F⟩:=hidv L.heap.size;simp only[<-F]at R T ⊢;clear F S N c5 c8 y;have lY:=j.lt;have lE:=R.lt;obtain⟨g0,g1,g2⟩:=ci3 n C D R.cell;have c5:=ci 10 (j.cell 5);have c9:=ci ti (j.cell 9);have b1:=ci pk (j.cell 10);have b2:=ci pa (j.cell 11);have b3:=ci pb (j.cell 12);have zf:=j.free;have O:=((j.set 10 (.int .i64 n)).set 11 (.int .i64 C)).set 12 (.int .i64 D);by_cases hc:B=true/\n=2
 ·replace l:=hd' (l.out.trans (if_pos hc));obtain⟨rfl,rfl⟩:=hc;have hD:=((O.set 5 (.int .i64 11)).set 9 (.int .i64 0));clear z;go_wp2_with fail;go_returns;exact⟨rfl,by rw[l.out];exact hD⟩
 replace l:=hd' (l.out.trans (if_neg hc));have J:B=false\/(B=true/\(n==2)=false):=by
  cases B
  ·exact .inl rfl
  exact .inr ⟨rfl,by simpa using hc⟩
 clear hc;rcases J with rfl|⟨rfl,J⟩;all_goals go_wp2_with (go_at_call 300;(with_reducible refine(z.out _ O.row).mono ?_);rintro r w3 hT;obtain rfl:=hT.ret);go_returns;exact⟨rfl,by rw[l.out];exact O.turned hT⟩
theorem z7x(q p b:Nat)(s:Sh)(t:Ad)(m:Mem)(w:World)(G:At3 q p b w w (zan s t) 282 m)(T:Fits s m)(hs:m.st<1000000000)(J:t.done=false)(hn:t.next=11)(I:0<=t.at'/\t.at'<s.p)(hi:0<=t.i/\t.i<16):
  Calls Tryz.prog 297 #[.pointer (some ⟨q,0,.none⟩),.pointer (some ⟨p,0,.none⟩)] w fun e w'=>e= .returned (.tuple #[])/\At3 q p b w w' (zan s (za0 s t m).1) 282 (za0 s t m).2:=by
 have n:0<=t.at'/\t.at'<64:=by have:=T.bd;omega
 rw[zju s t m J hn];obtain⟨V,U⟩:=T.slot I hi;have j:=fun Y=>zbm s.p s.c s.m t.at' t.i Y;rw[V]at j ⊢;have o:=fun Y (hY:zaq Y p b m)=>zc1 p b m t.c (s.c+s.p+t.at'*16+t.i) Y hY U hs;have z:=fun Y=>zbl 2 t.d Y;have C:=fun Y (hY:zaa Y q (zan s t) 282)=>zo4 q s t Y hY n hi;generalize s.c+s.p+t.at'*16+t.i=pg at *;generalize m.get pg=x at *;generalize zc3 2 t.d=y at *;dsimp only;obtain⟨t2,l,F⟩:∃ t2:Ad,Hid (t2=if x=y then {t with next:=12} else t.slot s)/\t2=_:=⟨_,hd' rfl,rfl⟩;rw[<-F];clear F V U T n hi;obtain⟨sp,Z,sm⟩:=s;obtain⟨X,td,tn,tw,L,ta,ti,pk,pa,pb,D,b0⟩:=t;dsimp only at J hn I j o z C l ⊢;subst J hn;replace j:=hd' j;replace o:=hd' o;replace z:=hd' z;replace C:=hd' C;have lq:=G.lt;have c5:=ci 11 (G.cell 5);clear I;go_in;go_upto_region 10 with fail
 refine zcl (x:=zbb 2) (ld:=18) (v:= .int .u64 x) (ts:= [60,64,77])
  (K0:=fun Y=>At3 q p b w Y (zan ⟨sp,Z,sm⟩ ⟨X,td,11,tw,L,ta,ti,pk,pa,pb,D,false⟩) 282 m) (K1:=fun Y=>At3 q p b w Y (zan ⟨sp,Z,sm⟩ ⟨X,td,11,tw,L,ta,ti,pk,pa,pb,D,false⟩) 282 (m.load X pg))
  (by kernel_rfl) (by simp only[zbb,zfq,zej,nopO,nopC,Nat.reduceBEq,Bool.or_false,Bool.or_true,Bool.false_eq_true,↓reduceIte,Nat.reduceAdd];exact rfl) (by kernel_rfl) (by kernel_rfl) (by kernel_rfl) (by simp[zbb]) (by simp[zbb]) (by simp[zbb]) (by simp[zbb]) (by kernel_rfl) (by simp[zbb]) (by simp[zbb])
  ⟨⟨fun Y Y' R S N=>R.far S N G.only.size⟩,⟨fun Y Y' R S N=>R.far S N G.only.size⟩⟩ G.drew ?_
 apply Exists.intro;refine⟨fun B hb hs=>?_,fun h=>(by simp[zbb]at h),?_,?_⟩;case refine_1=>
  have E:zaa B q (zan ⟨sp,Z,sm⟩ ⟨X,td,11,tw,L,ta,ti,pk,pa,pb,D,false⟩) 282:=hb.elim (fun h=>h.row) (fun h=>h.row);have lB:=E.lt;obtain⟨k0,k1,k2,k3,k4⟩:=ci5 sp Z sm X td E.cell;have k8:=ci ta (E.cell 8);have k9:=ci ti (E.cell 9);repeat (go_big_quiet_step ((first|(go_at_call 121;exact zam (j.out _))|(go_at_call 156;exact zam (z.out _)))))
  exact wpQuiet_nil rfl
 case refine_2=>exact zcz rfl (fun _ _=>by simp[go_sem]) fun Y H hs=>(o.out Y H.wds).mono fun r Y' ⟨R,S,N⟩=>⟨R,H.load S N,N.weak fun k hk=>hk ▸ Nat.lt_of_lt_of_le H.ls.2.1 G.only.size⟩
 case refine_3=>
  intro a w4 M T;obtain⟨rfl,b1,O,_⟩:=T;simp only[zbb,vput,List.size_toArray,List.length_cons,List.length_nil,Nat.reduceAdd,Nat.reduceLT,decide_false,Bool.false_eq_true,if_false];have z5:=ci 11 (O.cell 5);have zf:=O.free;have lA:=O.lt;clear G o j z c5;rcases(by by_cases h:x=y<;>simp[h]:x=y\/(x≠y/\(x==y)=false)) with rfl|⟨hk,hk2⟩
  ·replace l:=hd' (l.out.trans (if_pos rfl));clear C;go_wp2_with fail;go_returns;exact⟨rfl,by rw[l.out];exact O.set 5 _⟩
  replace l:=hd' (l.out.trans (if_neg hk));go_wp2_with (go_at_call 294;(with_reducible refine(C.out _ O.row).mono ?_);rintro r w3 hT;obtain rfl:=hT.ret);go_returns;exact⟨rfl,by rw[l.out];exact O.turned hT⟩
theorem z6v(q p b:Nat)(s:Sh)(t:Ad)(m:Mem)(w:World)(B:At3 q p b w w (zan s t) 282 m)(I:Fits s m)(hs:m.st<1000000000)(D:t.done=false)(J:t.next=12)(C:0<=t.at'/\t.at'<s.p)(hi:0<=t.i/\t.i<16):
  Calls Tryz.prog 297 #[.pointer (some ⟨q,0,.none⟩),.pointer (some ⟨p,0,.none⟩)] w fun e w'=>e= .returned (.tuple #[])/\At3 q p b w w' (zan s (za0 s t m).1) 282 (za0 s t m).2:=by
 have l:0<=t.at'/\t.at'<64:=by have:=I.bd;omega
 rw[zkg s t m D J];obtain⟨F,E⟩:=I.slot C hi;have j:=fun Y=>zbm s.p s.c s.m t.at' t.i Y;rw[F]at j ⊢;have z:=fun Y (H:zaq Y p b m)=>zba p b m t.c (s.c+s.p+t.at'*16+t.i) (zc3 1 t.pa) Y H E (zch _ _) hs;have o:=fun Y=>zbl 1 t.pa Y;have n:=fun Y (H:zaa Y q (zan s t) 282)=>zo4 q s t Y H l hi;generalize s.c+s.p+t.at'*16+t.i=pg at *;generalize zc3 1 t.pa=y at *;dsimp only;obtain⟨U,G⟩:∃ U,U=t.slot s:=⟨_,rfl⟩;rw[<-G]at n ⊢;clear G F E I l hi;obtain⟨sp,sc,sm⟩:=s;obtain⟨tc,td,tn,tw,b0,ta,ti,pk,pa,pb,V,N⟩:=t;dsimp only at D J C j z o n ⊢;subst D J;replace j:=hd' j;replace z:=hd' z;replace o:=hd' o;replace n:=hd' n;have lq:=B.lt;obtain⟨c0,c1,c2,c3⟩:=ci4 sp sc sm tc B.cell;have c5:=ci 12 (B.cell 5);have c8:=ci ta (B.cell 8);have c9:=ci ti (B.cell 9);have X:=ci pa (B.cell 11);clear C;go_in;go_upto_region 14 with fail;refine zad 25 (by kernel_rfl) (by kernel_rfl) ?_;dsimp only[List.take,List.drop];repeat (go_big_quiet_step ((first|(go_at_call 121;exact zam (j.out _))|(go_at_call 156;exact zam (o.out _)))))
 refine wpQuiet_nil ?_;rintro _ ⟨O,rfl⟩;have T:=B.below O.below;generalize O.w=Z at *;change wpList _ _ _ _ _ Z;clear lq B;go_wp2_with (first|(go_at_call 257;(with_reducible refine(z.out _ T.wds).mono ?_);rintro r w2 ⟨rfl,M,L⟩;have R:=T.access M L)|(go_at_call 294;(with_reducible refine(n.out _ R.row).mono ?_);rintro r w3 S;obtain rfl:=S.ret));go_returns;exact⟨rfl,R.turned S⟩
theorem z7k(q p b:Nat)(s:Sh)(t:Ad)(m:Mem)(w:World)(F:At3 q p b w w (zan s t) 282 m)(H:Fits s m)(hs:m.st<1000000000)(z:t.done=false)(I:t.next=13)(B:0<=t.at'/\t.at'<s.p)(hd:0<=t.d/\t.d<s.c):
  Calls Tryz.prog 297 #[.pointer (some ⟨q,0,.none⟩),.pointer (some ⟨p,0,.none⟩)] w fun e w'=>e= .returned (.tuple #[])/\At3 q p b w w' (zan s (za0 s t m).1) 282 (za0 s t m).2:=by
 have o:0<=t.at'/\t.at'<64:=by have:=H.bd;omega
 rw[zj8 s t m z I];obtain⟨D,C⟩:=H.status hd;have i:=fun Y=>zau s.p s.c s.m t.d Y;rw[D]at i ⊢;have n:=fun Y (G:zaq Y p b m)=>zba p b m t.c t.d (za8 4 0) Y G C (zdz _ _) hs;have l:=fun Y=>zgn 4 0 Y;have j:=fun Y (G:zaa Y q (zan s t) 282)=>zhr q s t 0 Y G;generalize za8 4 0=y at *;dsimp only;obtain⟨T,E⟩:∃ T,T=t.fin 0:=⟨_,rfl⟩;rw[<-E]at j ⊢;clear E D C H o hd;obtain⟨sp,X,sm⟩:=s;obtain⟨tc,td,tn,tw,b0,ta,ti,pk,pa,pb,U,M⟩:=t;dsimp only at z I B i n l j ⊢;subst z I;replace i:=hd' i;replace n:=hd' n;replace l:=hd' l;replace j:=hd' j;have V:=F.lt;obtain⟨c0,c1,c2,c3,c4,c5⟩:=ci6 sp X sm tc td 13 F.cell;clear B;go_in;go_upto_region 1 with fail;refine zad 15 (by kernel_rfl) (by kernel_rfl) ?_;dsimp only[List.take,List.drop];repeat (go_big_quiet_step ((first|(go_at_call 57;exact zam (i.out _))|(go_at_call 117;exact zam (l.out _)))))
 refine wpQuiet_nil ?_;rintro _ ⟨N,rfl⟩;have S:=F.below N.below;generalize N.w=Z at *;change wpList _ _ _ _ _ Z;clear V F;go_wp2_with (first|(go_at_call 257;(with_reducible refine(n.out _ S.wds).mono ?_);rintro r w2 ⟨rfl,L,J⟩;have O:=S.access L J)|(go_at_call 176;(with_reducible refine(j.out _ O.row).mono ?_);rintro r w3 R;obtain rfl:=R.ret));go_returns;exact⟨rfl,O.turned R⟩
theorem zl8(s:Sh)(t:Ad)(m:Mem)(h:t.done=false)(b:t.next=9):za0 s t m=(if t.i+1=s.m then {t with i:=0,next:=10} else {t with i:=t.i+1},m.store t.c (ze9 s.p s.c s.m t.d t.i) 0):=by
 unfold za0;simp[h,b]
theorem zkx(s:Sh)(t:Ad)(m:Mem)(h:t.done=true):za0 s t m=(t,m):=by
 unfold za0;simp[h]
structure adOk (s:Sh) (t:Ad):Prop where
 cl:t.done=false->mayB s.p s.c s.m=true/\(0<=t.c/\t.c < s.c)/\(0<=t.d/\t.d < s.c)/\(0<=t.next/\t.next<=13)/\(0<=t.at'/\t.at' < s.p)/\(t.next=1->0<=t.who/\t.who < s.c)/\(t.next=4->0<=t.pa/\t.pa < s.p)/\
  (t.next=7->0<=t.i/\t.i < 16)/\(t.next=9->0<=t.i/\t.i < s.m)/\(t.next=11\/t.next=12->0 < zah t.pa/\0<=t.i/\t.i < zah t.pa)
theorem zh9{s:Sh}(t:Ad)(e:Int):adOk s (t.fin e):=⟨fun h=>by cases h⟩
theorem z7f(s:Sh)(c d:Int):adOk s (zix s c d):=by
 unfold zix;dsimp only;split
 ·exact zh9 _ _
 rename_i h;have b:=zbe (by omega:0<=zae s.p s.c s.m c);have f:=zbe (by omega:0<=zae s.p s.c s.m d);have hb:=zar.1 b.1;exact⟨fun _=>⟨b.1,b.2,f.2,by dsimp only;omega,by dsimp only;omega,fun e=>by dsimp only at e;omega,fun e=>by dsimp only at e;omega,fun e=>by dsimp only at e;omega,fun e=>by dsimp only at e;omega,fun e=>by dsimp only at e;omega⟩⟩
theorem zsf{s:Sh}{t:Ad}{again next:Int}(i:mayB s.p s.c s.m=true)(l:0<=t.c/\t.c<s.c)(n:0<=t.d/\t.d<s.c)(o:0<=t.at'/\t.at'<s.p)(q:again=3\/again=6\/again=10)(r:next=6\/next=9\/next=13):adOk s (t.turn s again next):=by
 have hb:=zar.1 i;have j:=zp2 s t again next
 simp only[beq_eq_false_iff_ne,ne_eq]at j;rcases j with⟨k1,b,f,e⟩|⟨k1,b,f,e⟩|⟨k1,b,e⟩|⟨k1,b,f,e⟩|⟨k1,b,f,e⟩|⟨k1,b,e⟩;all_goals
  rw[e];refine⟨fun _=>⟨i,l,n,?_,?_,fun e=>?_,fun e=>?_,fun e=>?_,fun e=>?_,fun e=>?_⟩⟩;all_goals try dsimp only at e
  all_goals dsimp only
  all_goals omega
theorem zs9{s:Sh}{t:Ad}(b:mayB s.p s.c s.m=true)(f:0<=t.c/\t.c<s.c)(j:0<=t.d/\t.d<s.c)(l:0<=t.at'/\t.at'<s.p)(n:0<zah t.pa/\0<=t.i/\t.i<zah t.pa):adOk s (t.slot s):=by
 unfold Ad.slot;split
 ·exact zsf b f j l (.inr (.inr rfl)) (.inr (.inr rfl))
 refine⟨fun _=>⟨b,f,j,?_,l,fun e=>?_,fun e=>?_,fun e=>?_,fun e=>?_,fun e=>?_⟩⟩;all_goals try dsimp only at e
 all_goals dsimp only
 all_goals omega
theorem z0s{s:Sh}{t:Ad}(m:Mem)(h:adOk s t):adOk s (za0 s t m).1:=by
 rcases Bool.eq_false_or_eq_true t.done with hd|hd
 ·rw[zkx s t m hd];exact h
 obtain⟨l,o,q,T,r,c1,S,E,F,f⟩:=h.cl hd;have hb:=zar.1 l;have b:∀ (u:Ad),u.c=t.c->u.d=t.d->u.at'=t.at'->(0<=u.next/\u.next<=13)->u.next≠1->u.next≠4->(u.next=7->0<=u.i/\u.i<16)->(u.next=9->0<=u.i/\u.i<s.m)->(u.next=11\/u.next=12->0<zah u.pa/\0<=u.i/\u.i<zah u.pa)->adOk s u:=fun u z C D H I J L M B=>⟨fun _=>⟨l,by rw[z];exact o,by rw[C];exact q,H,by rw[D];exact r,fun e=>absurd e I,fun e=>absurd e J,L,M,B⟩⟩
 have turn:∀ (u:Ad) again next,u.c=t.c->u.d=t.d->u.at'=t.at'->(again=3\/again=6\/again=10)->(next=6\/next=9\/next=13)->adOk s (u.turn s again next):=fun u a n z C D N O=>zsf l (by rw[z];exact o) (by rw[C];exact q) (by rw[D];exact r) N O
 rcases(by omega:t.next=0\/t.next=1\/t.next=2\/t.next=3\/t.next=4\/t.next=5\/t.next=6\/t.next=7\/t.next=8\/t.next=9\/t.next=10\/t.next=11\/t.next=12\/t.next=13) with n|n|n|n|n|n|n|n|n|n|n|n|n|n
 ·rw[zl2 s t m hd n];unfold Ad.asked;dsimp only;split
  ·exact b _ rfl rfl rfl (by dsimp only;omega) (by dsimp only;omega) (by dsimp only;omega) (fun e=>by dsimp only at e;omega) (fun e=>by dsimp only at e;omega) (fun e=>by dsimp only at e;omega)
  split
  ·exact zh9 _ _
  split
  ·exact zh9 _ _
  rename_i G;have G:=zbe (by omega:0<=zae s.p s.c s.m (zda (m.get (zae s.p s.c s.m t.d))));exact⟨fun _=>⟨l,o,q,by dsimp only;omega,r,fun _=>G.2,fun e=>by dsimp only at e;omega,fun e=>by dsimp only at e;omega,fun e=>by dsimp only at e;omega,fun e=>by dsimp only at e;omega⟩⟩
 ·rw[zmf s t m hd n];dsimp only;split
  ·exact zh9 _ _
  exact b _ rfl rfl rfl (by dsimp only;omega) (by dsimp only;omega) (by dsimp only;omega) (fun e=>by dsimp only at e;omega) (fun e=>by dsimp only at e;omega) (fun e=>by dsimp only at e;omega)
 ·rw[zlx s t m hd n];dsimp only;split
  ·exact b _ rfl rfl rfl (by dsimp only;omega) (by dsimp only;omega) (by dsimp only;omega) (fun e=>by dsimp only at e;omega) (fun e=>by dsimp only at e;omega) (fun e=>by dsimp only at e;omega)
  exact zh9 _ _
 ·rw[zl7 s t m hd n];dsimp only;split
  ·rename_i y;have j:=(zpw s t.at' (m.get (zak s.p s.c s.m t.at')) 4).2 y;have R:=zpu j.1 j.2;refine⟨fun _=>⟨l,o,q,by dsimp only;omega,r,fun e=>by dsimp only at e;omega,fun _=>?_,fun e=>by dsimp only at e;omega,fun e=>by dsimp only at e;omega,fun e=>by dsimp only at e;omega⟩⟩;show 0<=pgP s t.at' (m.get (zak s.p s.c s.m t.at')) 0/\pgP s t.at' (m.get (zak s.p s.c s.m t.at')) 0<s.p;unfold pgP;rw[if_pos y.1];omega
  exact turn _ _ _ rfl rfl rfl (.inl rfl) (.inl rfl)
 ·rw[zmc s t m hd n];dsimp only;split
  ·exact b _ rfl rfl rfl (by dsimp only;omega) (by dsimp only;omega) (by dsimp only;omega) (fun e=>by dsimp only at e;omega) (fun e=>by dsimp only at e;omega) (fun e=>by dsimp only at e;omega)
  exact turn _ _ _ rfl rfl rfl (.inl rfl) (.inl rfl)
 ·rw[zl5 s t m hd n];exact turn _ _ _ rfl rfl rfl (.inl rfl) (.inl rfl)
 ·rw[zmg s t m hd n];dsimp only;split
  ·exact b _ rfl rfl rfl (by dsimp only;omega) (by dsimp only;omega) (by dsimp only;omega) (fun e=>by dsimp only;omega) (fun e=>by dsimp only at e;omega) (fun e=>by dsimp only at e;omega)
  exact turn _ _ _ rfl rfl rfl (.inr (.inl rfl)) (.inr (.inl rfl))
 ·rw[zl3 s t m hd n];have E:=E n;dsimp only;split
  ·exact b _ rfl rfl rfl (by dsimp only;omega) (by dsimp only;omega) (by dsimp only;omega) (fun e=>by dsimp only at e;omega) (fun e=>by dsimp only at e;omega) (fun e=>by dsimp only at e;omega)
  exact b _ rfl rfl rfl (by dsimp only;omega) (by dsimp only;omega) (by dsimp only;omega) (fun e=>by dsimp only;omega) (fun e=>by dsimp only at e;omega) (fun e=>by dsimp only at e;omega)
 ·rw[zl6 s t m hd n];exact turn _ _ _ rfl rfl rfl (.inr (.inl rfl)) (.inr (.inl rfl))
 ·rw[zl8 s t m hd n];have F:=F n;dsimp only;split
  ·exact b _ rfl rfl rfl (by dsimp only;omega) (by dsimp only;omega) (by dsimp only;omega) (fun e=>by dsimp only at e;omega) (fun e=>by dsimp only at e;omega) (fun e=>by dsimp only at e;omega)
  exact b _ rfl rfl rfl (by dsimp only;omega) (by dsimp only;omega) (by dsimp only;omega) (fun e=>by dsimp only at e;omega) (fun e=>by dsimp only;omega) (fun e=>by dsimp only at e;omega)
 ·rw[zjn s t m hd n];dsimp only;split
  ·rename_i y;have j:=(zpw s t.at' (m.get (zak s.p s.c s.m t.at')) 2).2 y;have R:=(zdq j.1 j.2).2.2;refine b _ rfl rfl rfl (by dsimp only;omega) (by dsimp only;omega) (by dsimp only;omega) (fun e=>by dsimp only at e;omega) (fun e=>by dsimp only at e;omega) (fun _=>?_);show 0<zah (pgP s t.at' (m.get (zak s.p s.c s.m t.at')) 0)/\(0:Int)<=0/\0<zah (pgP s t.at' (m.get (zak s.p s.c s.m t.at')) 0);unfold pgP;rw[if_pos y.1];omega
  exact turn _ _ _ rfl rfl rfl (.inr (.inr rfl)) (.inr (.inr rfl))
 ·rw[zju s t m hd n];have f:=f (.inl n);dsimp only;split
  ·exact b _ rfl rfl rfl (by dsimp only;omega) (by dsimp only;omega) (by dsimp only;omega) (fun e=>by dsimp only at e;omega) (fun e=>by dsimp only at e;omega) (fun _=>f)
  exact zs9 l o q r f
 ·rw[zkg s t m hd n];exact zs9 l o q r (f (.inr n))
 rw[zj8 s t m hd n];exact zh9 _ _
end Go.Proofs.YtkbddndcegpllaaGreat

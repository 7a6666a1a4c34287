/- The Claimer of pages, the Stripper, the Binder in memory. -/
import Derived.Test.YtedcnffebdpmmaaGreatBu11

set_option linter.all false
set_option maxHeartbeats 2000000
set_option maxRecDepth 100000
namespace Go.Proofs.YtedcnffebdpmmaaGreat

open Go.RowKit

attribute [local go_sem ↓] Go.wp_at_zero Go.wp_at_succ

def zc9 (s:Sh) (t:Sp):Array Value:= #[s.p,s.c,s.m,t.c,t.page,t.k,t.i,t.back,t.held,t.done]
attribute [local go_sem] zc9

theorem zs8(s:Sh)(c pg k:Int)(w:World):
  Calls Tryz.prog 187 #[.agg #[s.p,s.c,s.m],c,pg,k] w fun e w'=>Born w w' e (zc9 s (zfa s c pg k)) 266:=by
 have b:=fun W=>zau s.p s.c s.m c W;have i:=fun W=>planPage_any s.p s.c s.m pg W;have j:=fun W=>slots_any k W;have F:zc9 s (zfa s c pg k)= #[.int .i64 s.p,.int .i64 s.c,.int .i64 s.m,.int .i64 c,.int .i64 pg,.int .i64 k,.int .i64 0,.bool false,.bool false,.bool (!(decide (0<=zae s.p s.c s.m c)&&decide (0<=zak s.p s.c s.m pg)&&decide (0<zah k)))]:=rfl;rw[F];clear F;generalize zae s.p s.c s.m c=C at *;generalize zak s.p s.c s.m pg=E at *;generalize zah k=sv at *;obtain⟨sp,z,B⟩:=s;dsimp only at b i ⊢;replace b:=hd' b;replace i:=hd' i;replace j:=hd' j;have D:(C<0)\/(0<=C/\E<0)\/(0<=C/\0<=E/\sv<=0)\/(0<=C/\0<=E/\0<sv):=by omega
 have o:=(Below.refl w.heap.size w).alloc lr (.cells #[sp,z,B] 23);have q:=heap_alloc_new w (.cells #[sp,z,B] 23);go_in;go_upto_region 1 with fail;generalize w.alloc (.cells #[sp,z,B] 23)=W at *;obtain⟨H,I,y⟩:=hidv w.heap.size;rw[<-y]at q ⊢;have L:H<W.heap.size:=(Array.getElem?_eq_some_iff.1 q).1;have c0:W.cell? ⟨H,0,.none⟩=some (.int .i64 sp):=zac q 0;have c1:W.cell? ⟨H,1,.none⟩=some (.int .i64 z):=zac q 1;have c2:W.cell? ⟨H,2,.none⟩=some (.int .i64 B):=zac q 2;clear y q;rcases D with h1|⟨h1,h2⟩|⟨h1,h2,h3⟩|⟨h1,h2,h3⟩;all_goals go_wp2_with (first|(go_at_call 22;(with_reducible refine(b.out _).mono ?_);rintro r M ⟨rfl,l⟩;have G:=zai l _ _ _ c0;have d1:=zai l _ _ _ c1;have d2:=zai l _ _ _ c2)|(go_at_call 65;(with_reducible refine(i.out _).mono ?_);rintro r N ⟨rfl,n⟩;have k0:=zai n _ _ _ G;have k1:=zai n _ _ _ d1;have J:=zai n _ _ _ d2)|(go_at_call 67;(with_reducible refine(j.out _).mono ?_);rintro r O ⟨rfl,rfl⟩));go_returns
 ·exact za6 o l (by simp[Int.not_le.2 h1])
 ·exact za6 o (zab l n) (by simp[h1,Int.not_le.2 h2])
 ·exact za6 o (zab l n) (by simp[h1,h2,Int.not_lt.2 h3])
 exact za6 o (zab l n) (by simp[h1,h2,h3])
def ze5 (s:Sh) (t:Bn):Array Value:= #[s.p,s.c,s.m,t.c,t.page,t.k,t.i,t.bound,t.done]
attribute [local go_sem] ze5

theorem z1j(s:Sh)(c pg k:Int)(w:World):
  Calls Tryz.prog 154 #[.agg #[s.p,s.c,s.m],c,pg,k] w fun e w'=>Born w w' e (ze5 s (zfi s c pg k)) 268:=by
 have b:=fun W=>zau s.p s.c s.m c W;have i:=fun W=>planPage_any s.p s.c s.m pg W;have j:=fun W=>slots_any k W;have F:ze5 s (zfi s c pg k)= #[.int .i64 s.p,.int .i64 s.c,.int .i64 s.m,.int .i64 c,.int .i64 pg,.int .i64 k,.int .i64 0,.bool false,.bool (!(decide (0<=zae s.p s.c s.m c)&&decide (0<=zak s.p s.c s.m pg)&&decide (0<zah k)))]:=rfl;rw[F];clear F;generalize zae s.p s.c s.m c=C at *;generalize zak s.p s.c s.m pg=E at *;generalize zah k=sv at *;obtain⟨sp,z,B⟩:=s;dsimp only at b i ⊢;replace b:=hd' b;replace i:=hd' i;replace j:=hd' j;have D:(C<0)\/(0<=C/\E<0)\/(0<=C/\0<=E/\sv<=0)\/(0<=C/\0<=E/\0<sv):=by omega
 have o:=(Below.refl w.heap.size w).alloc lr (.cells #[sp,z,B] 23);have q:=heap_alloc_new w (.cells #[sp,z,B] 23);go_in;go_upto_region 1 with fail;generalize w.alloc (.cells #[sp,z,B] 23)=W at *;obtain⟨H,I,y⟩:=hidv w.heap.size;rw[<-y]at q ⊢;have L:H<W.heap.size:=(Array.getElem?_eq_some_iff.1 q).1;have c0:W.cell? ⟨H,0,.none⟩=some (.int .i64 sp):=zac q 0;have c1:W.cell? ⟨H,1,.none⟩=some (.int .i64 z):=zac q 1;have c2:W.cell? ⟨H,2,.none⟩=some (.int .i64 B):=zac q 2;clear y q;rcases D with h1|⟨h1,h2⟩|⟨h1,h2,h3⟩|⟨h1,h2,h3⟩;all_goals go_wp2_with (first|(go_at_call 22;(with_reducible refine(b.out _).mono ?_);rintro r M ⟨rfl,l⟩;have G:=zai l _ _ _ c0;have d1:=zai l _ _ _ c1;have d2:=zai l _ _ _ c2)|(go_at_call 65;(with_reducible refine(i.out _).mono ?_);rintro r N ⟨rfl,n⟩;have k0:=zai n _ _ _ G;have k1:=zai n _ _ _ d1;have J:=zai n _ _ _ d2)|(go_at_call 67;(with_reducible refine(j.out _).mono ?_);rintro r O ⟨rfl,rfl⟩));go_returns
 ·exact za6 o l (by simp[Int.not_le.2 h1])
 ·exact za6 o (zab l n) (by simp[h1,Int.not_le.2 h2])
 ·exact za6 o (zab l n) (by simp[h1,h2,Int.not_lt.2 h3])
 exact za6 o (zab l n) (by simp[h1,h2,h3])
def zfn (s:Sh) (t:Pc):Array Value:= #[s.p,s.c,s.m,t.c,t.first,t.many,t.empty,t.found,t.done]
attribute [local go_sem] zfn

theorem z3d(s:Sh)(c f:Int)(w:World):
  Calls Tryz.prog 146 #[.agg #[s.p,s.c,s.m],c,f] w fun e w'=>Born w w' e (zfn s (zlu s c f)) 263:=by
 have l:=fun W=>zau s.p s.c s.m c W;have n:=fun W=>planPage_any s.p s.c s.m f W;have B:zfn s (zlu s c f)= #[.int .i64 s.p,.int .i64 s.c,.int .i64 s.m,.int .i64 c,.int .i64 f,.int .i64 0,.bool false,.bool false,.bool (decide (zae s.p s.c s.m c<0)||decide (zak s.p s.c s.m f<0))]:=rfl;rw[B];clear B;generalize zae s.p s.c s.m c=z at *;generalize zak s.p s.c s.m f=C at *;obtain⟨sp,r,y⟩:=s;dsimp only at l n ⊢;replace l:=hd' l;replace n:=hd' n;have b:=(Below.refl w.heap.size w).alloc lr (.cells #[sp,r,y] 23);have o:=heap_alloc_new w (.cells #[sp,r,y] 23);go_in;go_upto_region 1 with fail;generalize w.alloc (.cells #[sp,r,y] 23)=W at *;obtain⟨H,E,j⟩:=hidv w.heap.size;rw[<-j]at o ⊢;have F:H<W.heap.size:=(Array.getElem?_eq_some_iff.1 o).1;have D:=zac o;clear j o;rcases(by omega:z<0\/(¬ z<0/\C<0)\/(¬ z<0/\¬ C<0)) with h1|⟨h1,h2⟩|⟨h1,h2⟩;all_goals
  try have q1:=decide_eq_false h1
  refine wret 14 ?_;repeat (go_big_quiet_step ((first|(go_at_call 22;exact zam (l.out _))|(go_at_call 65;exact zam (n.out _)))))
  refine wqn fun X q=>?_;have i:=q;go_wp2_with fail;go_returns
 ·exact za6 b i (by simp[h1])
 ·exact za6 b i (by simp[h1,h2])
 exact za6 b i (by simp[h1,h2])
theorem zoo(q:Nat)(s:Sh)(t:Pc)(w:World)(n:zaa w q (zfn s t) 263)(m:1<=s.p/\s.p<=64)(h1:0<=t.first/\t.first<64)(h2:0<=t.many/\t.many<=64):
  Calls Tryz.prog 153 #[some q] w fun e w'=>e= .returned (.int .i64 (t.page s))/\Below w.heap.size w w':=by
 unfold Pc.page;obtain⟨sp,H,I⟩:=s;obtain⟨J,tf,b,i,j,l⟩:=t;dsimp only at m h1 h2 ⊢;have C:=n.lt;have o:=n.cell;obtain⟨F,G⟩:=m;obtain⟨z,B⟩:=h1;obtain⟨D,E⟩:=h2;have L:=wrp (tf+b);have M:(tf+b).tmod sp=(tf+b)%sp:=Int.tmod_eq_emod_of_nonneg (by omega);have O:(sp==0)=false:=by simp;omega
 have N:IntKind.i64.wrap ((tf+b)%sp)=(tf+b)%sp:=by have r:=Int.emod_nonneg (tf+b) (by omega:sp≠0);have y:=Int.emod_lt_of_pos (tf+b) (by omega:0<sp);exact IntWalk.i64_in _ ⟨by omega,by omega⟩
 go_in;go_wp2_with fail;go_quiet (fail);have hb:=below_drewN (Below.refl w.heap.size w) nq;go_wp2_with fail;go_returns;exact⟨rfl,hb⟩
theorem zxr(q p b:Nat)(s:Sh)(t:Pc)(m:Mem)(w:World)(hq:zaa w q (zfn s t) 263)(hw:zaq w p b m)(bc:q≠p)(bb:q≠b)(hf:Fits s m)(ho:pcOk s t)(hs:m.st<1000000000):
  Calls Tryz.prog 241 #[some q,some p] w fun e w'=>Stepped q p b w w' e (zfn s (ze7 s t m).1) 263 (ze7 s t m).2:=by
 have h0:=At3.start hq hw bc bb;clear hq hw;rcases Bool.eq_false_or_eq_true t.done with hd|hd
 ·have E:ze7 s t m=(t,m):=by unfold ze7;rw[if_pos hd]
  rw[E];clear E;have c8:w.cell? ⟨q,8,.none⟩=some (.bool true):=by rw[<-hd];exact h0.cell 8
  clear ho hd hf;go_in;go_wp2_with fail;go_returns;exact h0.fin rfl rfl
 obtain⟨hc,b9,ba⟩:=ho.cl hd;have b8:=hf.bd;have b3:0<=t.page s/\t.page s<s.p:=⟨Int.emod_nonneg _ (by omega),Int.emod_lt_of_pos _ (by omega)⟩;obtain⟨S,R⟩:=hf.page b3;have l:=fun Y (hY:zaa Y q (zfn s t) 263)=>zoo q s t Y hY (by omega) (by omega) (by omega);have i:=fun Y=>planPage_any s.p s.c s.m (t.page s) Y;have n:=fun Y=>zcd 1 t.c 0 Y;rw[S]at i;obtain⟨r,E⟩:∃ r,r=ze7 s t m:=⟨_,rfl⟩;rw[<-E];unfold ze7 at E;rw[if_neg (by rw[hd];decide)]at E;dsimp only at E;rw[S]at E;have B:=fun Y (hY:zaq Y p b m)=>zc1 p b m t.c (s.c+t.page s) Y hY R hs;have y:=fun Y (hY:zaq Y p b m)=>zff p b m t.c (s.c+t.page s) 0 (zf4 t.c) Y hY R (zc0 _ _ _) hs;generalize s.c+t.page s=pa at B y i E;generalize b4:t.page s=pg at l i;have w1:=wrp (t.many+1);clear b4 R S b3 ho hf ba b9 hc b8;have b2:Hid (zf4 t.c=zb8 1 t.c 0):=hd' rfl;rw[<-b2.out]at n;clear b2;generalize zf4 t.c=hw at n y E;have F:m.get pa=0\/(¬ m.get pa=0/\(m.get pa==0)=false/\decide (m.get pa=0)=false):=by
  by_cases h:m.get pa=0
  ·exact .inl h
  exact .inr ⟨h,by simpa using h,decide_eq_false h⟩
 rcases Bool.eq_false_or_eq_true t.empty with G|G
 ·rw[if_neg (by rw[G];decide)]at E;obtain⟨V,j,D⟩:∃ V:Pc,Hid (V=if m.get pa=0 then {t with found:=true,done:=true} else {t with empty:=false,many:=t.many+1,done:=decide (t.many+1=s.p)})/\V=_:=⟨_,hd' rfl,rfl⟩;rw[<-D]at E;clear D B;subst E;obtain⟨g,hg⟩:∃ g,g=decide (m.get pa=0):=⟨_,rfl⟩;rw[<-hg]at y F;replace F:(m.get pa=0/\g=true)\/(¬ m.get pa=0/\g=false):=F.elim (fun h=>.inl ⟨h,by rw[hg,decide_eq_true h]⟩) (fun h=>.inr ⟨h.1,h.2.2⟩);clear hg;obtain⟨tc,tf,tm,L,M,b0⟩:=t;obtain⟨sp,sc,sm⟩:=s;dsimp only at hd G y l i n j w1 ⊢;subst hd G;replace y:=hd' y;replace l:=hd' l;replace i:=hd' i;replace n:=hd' n;have lq:=h0.lt;have b5:=h0.cell;have c8:=ce (.bool false) (h0.cell 8);go_in;go_upto_region 1 with fail;refine wre ?_;repeat (go_big_quiet_step ((first|(go_at_call 153;exact zam (l.out _ (h0.row.below (Ext.below _))))|(go_at_call 65;exact zam (i.out _)))))
  refine wqn fun X o=>?_;have J:=h0.below o;clear b5 c8 h0 lq;have bh:=J.cell;go_upto_region 5 with fail;have lX:=J.lt;refine wret 12 ?_;repeat (go_big_quiet_step (((go_at_call 93;exact zam (n.out _)))))
  refine wqn fun Z o=>?_;have hZ:=J.below o;rcases F with⟨C,rfl⟩|⟨C,rfl⟩
  ·replace j:=hd' (j.out.trans (if_pos C));clear C;go_wp2_with (go_at_call 189;(with_reducible refine(y.out _ hZ.wds).mono ?_);rintro r w2 ⟨rfl,I,H⟩;have z:=hZ.access I H;have bi:=z.cell;have zf:=z.free);go_returns;exact((z.set 7 _).set 8 _).fin (by rw[j.out];rfl) rfl
  replace j:=hd' (j.out.trans (if_neg C));clear C;go_upto_region 9 with(go_at_call 189;(with_reducible refine(y.out _ hZ.wds).mono ?_);rintro r w2 ⟨rfl,I,H⟩;have z:=hZ.access I H;have b6:=z.cell;have zf:=z.free);have N:=(z.set 6 (.bool false)).set 5 (.int .i64 (tm+1));clear z b6 zf;generalize World.setCell _ ⟨q,5,.none⟩ (.int .i64 (tm+1))=U at *;have bj:=N.cell;have lU:=N.lt;refine wret 13 ?_;repeat (go_big_quiet_step (fail))
  refine wqn fun T o=>?_;have O:=N.below o;have bk:=O.cell;have zf:=O.free;go_wp2_with fail;go_returns;exact(O.set 8 _).fin (by rw[j.out];rfl) rfl
 rw[if_pos G]at E;obtain⟨V,j,D⟩:∃ V:Pc,Hid (V=if m.get pa=0 then {t with empty:=true} else {t with empty:=false,many:=t.many+1,done:=decide (t.many+1=s.p)})/\V=_:=⟨_,hd' rfl,rfl⟩;rw[<-D]at E;clear D y n;subst E;obtain⟨x,hx⟩:∃ x,x=m.get pa:=⟨_,rfl⟩;rw[<-hx]at B F j;clear hx;obtain⟨tc,tf,tm,L,M,b0⟩:=t;obtain⟨sp,sc,sm⟩:=s;dsimp only at hd G B l i j w1 ⊢;subst hd G;replace B:=hd' B;replace l:=hd' l;replace i:=hd' i;have lq:=h0.lt;have b7:=h0.cell;have c8:=ce (.bool false) (h0.cell 8);go_in;go_upto_region 1 with fail;refine wre ?_;repeat (go_big_quiet_step ((first|(go_at_call 153;exact zam (l.out _ (h0.row.below (Ext.below _))))|(go_at_call 65;exact zam (i.out _)))))
 refine wqn fun X o=>?_;have J:=h0.below o;clear b7 c8 h0 lq;have bm:=J.cell;rcases F with rfl|⟨C,F,_⟩
 ·replace j:=hd' (j.out.trans (if_pos rfl));go_wp2_with (go_at_call 186;(with_reducible refine(B.out _ J.wds).mono ?_);rintro r w2 ⟨rfl,I,H⟩;have z:=J.load I H;have bn:=z.cell;have zf:=z.free);go_returns;exact(z.set 6 _).fin (by rw[j.out];rfl) rfl
 replace j:=hd' (j.out.trans (if_neg C));clear C;go_upto_region 9 with(go_at_call 186;(with_reducible refine(B.out _ J.wds).mono ?_);rintro r w2 ⟨rfl,I,H⟩;have z:=J.load I H;have b1:=z.cell;have zf:=z.free);have N:=((z.set 6 (.bool false)).set 6 (.bool false)).set 5 (.int .i64 (tm+1));clear z b1 zf;generalize World.setCell _ ⟨q,5,.none⟩ (.int .i64 (tm+1))=U at *;have bf:=N.cell;have lU:=N.lt;refine wret 13 ?_;repeat (go_big_quiet_step (fail))
 refine wqn fun T o=>?_;have O:=N.below o;have bg:=O.cell;have zf:=O.free;go_wp2_with fail;go_returns;exact(O.set 8 _).fin (by rw[j.out];rfl) rfl
theorem zox(q p b:Nat)(s:Sh)(t:Sp)(m:Mem)(w:World)(hq:zaa w q (zc9 s t) 266)(hw:zaq w p b m)(bw:q≠p)(bv:q≠b)(hf:Fits s m)(ho:spOk s t)(hs:m.st<1000000000):
  Calls Tryz.prog 192 #[some q,some p] w fun e w'=>Stepped q p b w w' e (zc9 s (zdu s t m).1) 266 (zdu s t m).2:=by
 have h0:=At3.start hq hw bw bv;clear hq hw;rcases Bool.eq_false_or_eq_true t.done with hd|hd
 ·have F:zdu s t m=(t,m):=by unfold zdu;rw[if_pos hd]
  rw[F];clear F;have c9:w.cell? ⟨q,9,.none⟩=some (.bool true):=by rw[<-hd];exact h0.cell 9
  clear ho hd hf;go_in;go_wp2_with fail;go_returns;exact h0.fin rfl rfl
 obtain⟨hc,N,hk,hi,b4⟩:=ho.cl hd;have ba:=hf.bd;have bb:=zdg hk;obtain⟨U,b7⟩:=hf.page N;have y:=fun Y=>planPage_any s.p s.c s.m t.page Y;rw[U]at y;have D:=fun Y=>zcd 1 t.c 0 Y;have l:=fun Y=>zbl 1 t.k Y;have z:=fun Y=>zbl 2 t.c Y;have n:=fun Y=>slots_any t.k Y;obtain⟨r,F⟩:∃ r,r=zdu s t m:=⟨_,rfl⟩;rw[<-F];unfold zdu at F;rw[if_neg (by rw[hd];decide)]at F;have bg:Hid (zf4 t.c=zb8 1 t.c 0):=hd' rfl;have bh:Hid (zc8 t.k=zc3 1 t.k):=hd' rfl;have bi:Hid (wayW t.c=zc3 2 t.c):=hd' rfl;rw[<-bg.out]at D;rw[<-bh.out]at l;rw[<-bi.out]at z;have b5:0<=zf4 t.c/\zf4 t.c<18446744073709551616:=zc0 _ _ _;have b6:0<=zc8 t.k/\zc8 t.k<18446744073709551616:=zch _ _;have b8:0<=wayW t.c/\wayW t.c<18446744073709551616:=zch _ _;clear bg bh bi;rw[U]at F;have w1:=wrp (t.i-1);have w2:=wrp (t.i+1);rcases Bool.eq_false_or_eq_true t.back with hb|hb
 ·rw[if_pos hb]at F;have bu:=b4 hb;obtain⟨b0,V⟩:=hf.slot N (i:=t.i-1) (by omega);have j:=fun Y=>zbm s.p s.c s.m t.page (t.i-1) Y;rw[b0]at j F;have E:=fun Y (G:zaq Y p b m)=>zba p b m t.c (s.c+s.p+t.page*16+(t.i-1)) (zc8 t.k) Y G V b6 hs;generalize s.c+s.p+t.page*16+(t.i-1)=sa at j E F;generalize zc8 t.k=ow at *;clear y D z n b0 V b7 U ho hf hc N b4 b5 b6 b8 w2 ba bb hk;obtain⟨t2,o,B⟩:∃ t2:Sp,Hid (t2= {t with i:=t.i-1,done:=decide (t.i-1=0)})/\t2=_:=⟨_,hd' rfl,rfl⟩;rw[<-B]at F;clear B;subst F;obtain⟨tc,tg,tk,ti,b1,b3,b2⟩:=t;obtain⟨sp,sc,sm⟩:=s;dsimp only at hd hb E j l o w1 ⊢;subst hd hb;replace E:=hd' E;replace j:=hd' j;replace l:=hd' l;clear hi bu;have lq:=h0.lt;have bj:=h0.cell;have c9:=ce (.bool false) (h0.cell 9);go_in;go_upto_region 4 with(go_at_call 110;(with_reducible refine(l.out _).mono ?_);rintro r w1 ⟨rfl,S⟩;have G:=h0.below S;have bk:=G.cell);have lY:=G.lt;clear bj c9 h0 lq;refine wret 20 ?_;repeat (go_big_quiet_step (((go_at_call 96;exact zam (j.out _)))))
  refine wqn fun Z C=>?_;have R:=G.below C;clear bk G lY;go_wp2_with (go_at_call 185;(with_reducible refine(E.out _ R.wds).mono ?_);rintro r w2 ⟨rfl,M,J⟩;have H:=R.access M J;have c4:=H.cell;have zf:=H.free);go_returns;exact((H.set 6 _).set 9 _).fin (by rw[o.out];rfl) rfl
 rw[if_neg (by rw[hb];decide)]at F;have I:t.i=zah t.k\/(¬ t.i=zah t.k/\(t.i==zah t.k)=false):=by
  by_cases h:t.i=zah t.k
  ·exact .inl h
  exact .inr ⟨h,by simpa using h⟩
 rcases I with I|⟨bc,I⟩
 ·rw[if_pos I]at F;have E:=fun Y (G:zaq Y p b m)=>zba p b m t.c (s.c+t.page) (zf4 t.c) Y G b7 b5 hs;generalize s.c+t.page=pa at y E F;generalize zc8 t.k=ow at *;generalize zf4 t.c=hw at *;clear z b7 U ho hf hc N b4 b5 b6 b8 w2 w1 ba bb hk hi;obtain⟨t2,o,B⟩:∃ t2:Sp,Hid (t2= {t with held:=true,done:=true})/\t2=_:=⟨_,hd' rfl,rfl⟩;rw[<-B]at F;clear B;subst F;rw[<-I]at n;clear I;obtain⟨tc,tg,tk,ti,b1,b3,b2⟩:=t;obtain⟨sp,sc,sm⟩:=s;dsimp only at hd hb E y D l n o ⊢;subst hd hb;replace E:=hd' E;replace y:=hd' y;replace D:=hd' D;replace l:=hd' l;replace n:=hd' n;have lq:=h0.lt;have bm:=h0.cell;have c9:=ce (.bool false) (h0.cell 9);go_in;go_upto_region 7 with(go_at_call 110;(with_reducible refine(l.out _).mono ?_);rintro r w1 ⟨rfl,S⟩;have G:=h0.below S;have bn:=G.cell);have lY:=G.lt;clear bm c9 h0 lq;refine wre ?_;repeat (go_big_quiet_step (((go_at_call 67;exact zdx ((n.out _).mono fun _ _ h=>⟨h.1,h.2⟩)))))
  refine wqn fun X C=>?_;have O:=G.below C;clear bn G lY;go_upto_region 8 with fail;have lX:=O.lt;have bp:=O.cell;refine wret 20 ?_;repeat (go_big_quiet_step ((first|(go_at_call 65;exact zam (y.out _))|(go_at_call 93;exact zam (D.out _)))))
  refine wqn fun Z C=>?_;have R:=O.below C;clear bp O lX;go_wp2_with (go_at_call 185;(with_reducible refine(E.out _ R.wds).mono ?_);rintro r w2 ⟨rfl,M,J⟩;have H:=R.access M J;have c5:=H.cell;have zf:=H.free);go_returns;exact((H.set 8 _).set 9 _).fin (by rw[o.out];rfl) rfl
 rw[if_neg bc]at F;obtain⟨b0,V⟩:=hf.slot N (i:=t.i) (by omega);have j:=fun Y=>zbm s.p s.c s.m t.page t.i Y;rw[b0]at j F;have L:=fun Y (G:zaq Y p b m)=>zff p b m t.c (s.c+s.p+t.page*16+t.i) (zc8 t.k) (wayW t.c) Y G V b8 hs;generalize s.c+s.p+t.page*16+t.i=sa at j L F;generalize zc8 t.k=ow at *;generalize wayW t.c=ww at *;obtain⟨t2,o,B⟩:∃ t2:Sp,Hid (t2=if m.get sa=ow then {t with i:=t.i+1} else {t with back:=true,done:=decide (t.i=0)})/\t2=_:=⟨_,hd' rfl,rfl⟩;rw[<-B]at F;clear B;subst F;have bf:(m.get sa=ow/\decide (m.get sa=ow)=true)\/(¬ m.get sa=ow/\decide (m.get sa=ow)=false):=by
  by_cases h:m.get sa=ow
  ·exact .inl ⟨h,decide_eq_true h⟩
  exact .inr ⟨h,decide_eq_false h⟩
 generalize decide (m.get sa=ow)=g at L bf;generalize zah t.k=sv at *;clear D y b7 U b0 V ho hf hc N b4 b5 b6 b8 w1 ba bb hk hi bc;obtain⟨tc,tg,tk,ti,b1,b3,b2⟩:=t;obtain⟨sp,sc,sm⟩:=s;dsimp only at hd hb L j l z n o w2 I ⊢;subst hd hb;replace L:=hd' L;replace j:=hd' j;replace l:=hd' l;replace z:=hd' z;replace n:=hd' n;have lq:=h0.lt;have bq:=h0.cell;have c9:=ce (.bool false) (h0.cell 9);go_in;go_upto_region 7 with(go_at_call 110;(with_reducible refine(l.out _).mono ?_);rintro r w1 ⟨rfl,S⟩;have G:=h0.below S;have bs:=G.cell);have lY:=G.lt;clear bq c9 h0 lq;refine wre ?_;repeat (go_big_quiet_step (((go_at_call 67;exact zdx ((n.out _).mono fun _ _ h=>⟨h.1,h.2⟩)))))
 refine wqn fun X C=>?_;have O:=G.below C;clear bs G lY;go_upto_region 10 with fail;have lX:=O.lt;have b9:=O.cell;rcases bf with⟨T,rfl⟩|⟨T,rfl⟩
 ·replace o:=hd' (o.out.trans (if_pos T));clear T;refine wret 25 ?_;repeat (go_big_quiet_step ((first|(go_at_call 96;exact zam (j.out _))|(go_at_call 110;exact zam (z.out _)))))
  refine wqn fun Z C=>?_;have R:=O.below C;clear b9 O lX;go_wp2_with (go_at_call 189;(with_reducible refine(L.out _ R.wds).mono ?_);rintro r w2 ⟨rfl,M,J⟩;have H:=R.access M J;have bx:=H.cell;have zf:=H.free);go_returns;exact(H.set 6 _).fin (by rw[o.out];rfl) rfl
 replace o:=hd' (o.out.trans (if_neg T));clear T;refine wret 25 ?_;repeat (go_big_quiet_step ((first|(go_at_call 96;exact zam (j.out _))|(go_at_call 110;exact zam (z.out _)))))
 refine wqn fun Z C=>?_;have R:=O.below C;clear b9 O lX;go_wp2_with (go_at_call 189;(with_reducible refine(L.out _ R.wds).mono ?_);rintro r w2 ⟨rfl,M,J⟩;have H:=R.access M J;have bz:=H.cell;have zf:=H.free);go_returns;exact((H.set 7 _).set 9 _).fin (by rw[o.out];rfl) rfl
end Go.Proofs.YtedcnffebdpmmaaGreat

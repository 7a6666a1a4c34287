
import Derived.Deep.CutBlock

import Derived.Test.YtkilokkopbajkaaGreatBw6

set_option linter.all false
set_option maxHeartbeats 2000000
set_option maxRecDepth 100000
namespace Go.Proofs.YtkilokkopbajkaaGreat

open RowKit

attribute [local go_sem ↓] wp_at_zero wp_at_succ

def IC (s:Sh) (t:Sp):Array Value:=#[s.p,s.c,s.m,t.c,t.page,t.k,t.i,t.back,t.held,t.done]
attribute [local go_sem] IC

theorem GW(s:Sh)(c pg k:Int)(w:World):
  Calls Tryz.prog 220 #[.agg #[s.p,s.c,s.m],c,pg,k] w λe w'=>Born w w' e (IC s (VB s c pg k)) 292:=by
 have b:=λW=>pC s.p s.c s.m c W;have i:=λW=>JB s.p s.c s.m pg W;have j:=λW=>gD k W;have E:IC s (VB s c pg k)=#[.int .i64 s.p,.int .i64 s.c,.int .i64 s.m,.int .i64 c,.int .i64 pg,.int .i64 k,.int .i64 0,.bool false,.bool false,.bool (!(decide (0<=uA s.p s.c s.m c)&&decide (0<=pA s.p s.c s.m pg)&&decide (0<mA k)))]:=rfl;rw[E];clear E;generalize uA s.p s.c s.m c=B at*;generalize pA s.p s.c s.m pg=D at*;generalize mA k=sv at*;obtain⟨sp,y,z⟩:=s;dsimp only at b i|-;replace b:=hd' b;replace i:=hd' i;replace j:=hd' j;have C:(B<0)\/(0<=B/\D<0)\/(0<=B/\0<=D/\sv<=0)\/(0<=B/\0<=D/\0<sv):=by omega
 have o:=(Below.refl w.heap.size w).alloc lr (.cells #[sp,y,z] 23);have t0:=jA w (.cells #[sp,y,z] 23);go_in;go_upto_region 1 with fail;generalize w.alloc (.cells #[sp,y,z] 23)=W at*;obtain⟨H,G,q⟩:=hidv w.heap.size;rw[<-q]at t0|-;have J:H<W.heap.size:=(jE t0);have c0:W.cell? ⟨H,0,.none⟩=some (.int .i64 sp):=iA t0 0;have c1:W.cell? ⟨H,1,.none⟩=some (.int .i64 y):=iA t0 1;have c2:W.cell? ⟨H,2,.none⟩=some (.int .i64 z):=iA t0 2;clear q t0;rcases C with h1|⟨h1,h2⟩|⟨h1,h2,h3⟩|⟨h1,h2,h3⟩;all_goals go_wp2_with (first|(go_at_call 44;refine(b _).mono ?_;rintro r L ⟨rfl,l⟩;have F:=kA l _ _ _ c0;have d1:=kA l _ _ _ c1;have d2:=kA l _ _ _ c2)|(go_at_call 112;refine(i _).mono ?_;rintro r M ⟨rfl,n⟩;have k0:=kA n _ _ _ F;have k1:=kA n _ _ _ d1;have I:=kA n _ _ _ d2)|(go_at_call 75;refine(j _).mono ?_;rintro r N ⟨rfl,rfl⟩));go_returns
 .exact WB o l (by simp[Int.not_le.2 h1])
 .exact WB o (qA l n) (by simp[h1,Int.not_le.2 h2])
 .exact WB o (qA l n) (by simp[h1,h2,Int.not_lt.2 h3])
 exact WB o (qA l n) (by simp[h1,h2,h3])
def yE (s:Sh) (t:Bn):Array Value:=#[s.p,s.c,s.m,t.c,t.page,t.k,t.i,t.bound,t.done]
attribute [local go_sem] yE

theorem z1j(s:Sh)(c pg k:Int)(w:World):
  Calls Tryz.prog 188 #[.agg #[s.p,s.c,s.m],c,pg,k] w λe w'=>Born w w' e (yE s (mC s c pg k)) 294:=by
 have b:=λW=>pC s.p s.c s.m c W;have i:=λW=>JB s.p s.c s.m pg W;have j:=λW=>gD k W;have E:yE s (mC s c pg k)=#[.int .i64 s.p,.int .i64 s.c,.int .i64 s.m,.int .i64 c,.int .i64 pg,.int .i64 k,.int .i64 0,.bool false,.bool (!(decide (0<=uA s.p s.c s.m c)&&decide (0<=pA s.p s.c s.m pg)&&decide (0<mA k)))]:=rfl;rw[E];clear E;generalize uA s.p s.c s.m c=B at*;generalize pA s.p s.c s.m pg=D at*;generalize mA k=sv at*;obtain⟨sp,y,z⟩:=s;dsimp only at b i|-;replace b:=hd' b;replace i:=hd' i;replace j:=hd' j;have C:(B<0)\/(0<=B/\D<0)\/(0<=B/\0<=D/\sv<=0)\/(0<=B/\0<=D/\0<sv):=by omega
 have o:=(Below.refl w.heap.size w).alloc lr (.cells #[sp,y,z] 23);have t0:=jA w (.cells #[sp,y,z] 23);go_in;go_upto_region 1 with fail;generalize w.alloc (.cells #[sp,y,z] 23)=W at*;obtain⟨H,G,q⟩:=hidv w.heap.size;rw[<-q]at t0|-;have J:H<W.heap.size:=(jE t0);have c0:W.cell? ⟨H,0,.none⟩=some (.int .i64 sp):=iA t0 0;have c1:W.cell? ⟨H,1,.none⟩=some (.int .i64 y):=iA t0 1;have c2:W.cell? ⟨H,2,.none⟩=some (.int .i64 z):=iA t0 2;clear q t0;rcases C with h1|⟨h1,h2⟩|⟨h1,h2,h3⟩|⟨h1,h2,h3⟩;all_goals go_wp2_with (first|(go_at_call 44;refine(b _).mono ?_;rintro r L ⟨rfl,l⟩;have F:=kA l _ _ _ c0;have d1:=kA l _ _ _ c1;have d2:=kA l _ _ _ c2)|(go_at_call 112;refine(i _).mono ?_;rintro r M ⟨rfl,n⟩;have k0:=kA n _ _ _ F;have k1:=kA n _ _ _ d1;have I:=kA n _ _ _ d2)|(go_at_call 75;refine(j _).mono ?_;rintro r N ⟨rfl,rfl⟩));go_returns
 .exact WB o l (by simp[Int.not_le.2 h1])
 .exact WB o (qA l n) (by simp[h1,Int.not_le.2 h2])
 .exact WB o (qA l n) (by simp[h1,h2,Int.not_lt.2 h3])
 exact WB o (qA l n) (by simp[h1,h2,h3])
def fF (s:Sh) (t:Pc):Array Value:=#[s.p,s.c,s.m,t.c,t.first,t.many,t.empty,t.found,t.done]
attribute [local go_sem] fF

theorem z3d(s:Sh)(c f:Int)(w:World):
  Calls Tryz.prog 180 #[.agg #[s.p,s.c,s.m],c,f] w λe w'=>Born w w' e (fF s (mE s c f)) 289:=by
 have l:=λW=>pC s.p s.c s.m c W;have n:=λW=>JB s.p s.c s.m f W;have z:fF s (mE s c f)=#[.int .i64 s.p,.int .i64 s.c,.int .i64 s.m,.int .i64 c,.int .i64 f,.int .i64 0,.bool false,.bool false,.bool (decide (uA s.p s.c s.m c<0)||decide (pA s.p s.c s.m f<0))]:=rfl;rw[z];clear z;generalize uA s.p s.c s.m c=y at*;generalize pA s.p s.c s.m f=B at*;obtain⟨sp,q,r⟩:=s;dsimp only at l n|-;replace l:=hd' l;replace n:=hd' n;have b:=(Below.refl w.heap.size w).alloc lr (.cells #[sp,q,r] 23);have t0:=jA w (.cells #[sp,q,r] 23);go_in;go_upto_region 1 with fail;generalize w.alloc (.cells #[sp,q,r] 23)=W at*;obtain⟨H,D,j⟩:=hidv w.heap.size;rw[<-j]at t0|-;have E:H<W.heap.size:=(jE t0);have C:=iA t0;clear j t0;rcases(by omega:y<0\/(¬y<0/\B<0)\/(¬y<0/\¬B<0)) with h1|⟨h1,h2⟩|⟨h1,h2⟩;all_goals
  try have q1:=jF h1
  refine wret 14 ?_;repeat (go_big_quiet_step ((first|(go_at_call 44;exact AA (l _))|(go_at_call 112;exact AA (n _)))))
  refine wqn λX o=>?_;have i:=o;go_wp2_with fail;go_returns
 .exact WB b i (by simp[h1])
 .exact WB b i (by simp[h1,h2])
 exact WB b i (by simp[h1,h2])
theorem EV(q:Nat)(s:Sh)(t:Pc)(w:World)(n:aA w q (fF s t) 289)(m:1<=s.p/\s.p<=64)(h1:0<=t.first/\t.first<64)(h2:0<=t.many/\t.many<=64):
  Calls Tryz.prog 187 #[some q] w λe w'=>e=.returned (.int .i64 (t.page s))/\Below w.heap.size w w':=by
 unfold Pc.page;obtain⟨sp,D,E⟩:=s;obtain⟨F,tf,b,i,j,l⟩:=t;dsimp only at m h1 h2|-;have z:=n.lt;have o:=n.cell;obtain⟨B,C⟩:=m;obtain⟨f1,f2⟩:=h1;obtain⟨m1,m2⟩:=h2;have G:=wrp (tf+b);have H:(tf+b).tmod sp=(tf+b)%sp:=Int.tmod_eq_emod_of_nonneg (by omega);have J:(sp==0)=false:=by simp;omega
 have I:IntKind.i64.wrap ((tf+b)%sp)=(tf+b)%sp:=by have r:=Int.emod_nonneg (tf+b) (by omega:sp≠0);have y:=Int.emod_lt_of_pos (tf+b) (by omega:0<sp);exact IntWalk.i64_in _ ⟨by omega,by omega⟩
 go_in;go_wp2_with fail;go_quiet (fail);have hb:=below_drewN (Below.refl w.heap.size w) nq;go_wp2_with fail;go_returns;exact⟨rfl,hb⟩
theorem zxr(q p b:Nat)(s:Sh)(t:Pc)(m:Mem)(w:World)(hq:aA w q (fF s t) 289)(hw:oA w p b m)(bc:q≠p)(bb:q≠b)(hf:Fits s m)(ho:pcOk s t)(hs:m.st<1000000000):
  Calls Tryz.prog 274 #[some q,some p] w λe w'=>Stepped q p b w w' e (fF s (ZD s t m).1) 289 (ZD s t m).2:=by
 have h0:=At3.start hq hw bc bb;clear hq hw;rcases jB t.done with hd|hd
 .have E:ZD s t m=(t,m):=by unfold ZD;rw[jP hd]
  rw[E];clear E;have c8:w.cell? ⟨q,8,.none⟩=some (.bool true):=by rw[<-hd];exact h0.cell 8
  clear ho hd hf;go_in;go_wp2_with fail;go_returns;exact h0.fin rfl rfl
 obtain⟨hc,b9,ba⟩:=ho.cl hd;have b8:=hf.bd;have b3:0<=t.page s/\t.page s<s.p:=⟨Int.emod_nonneg _ (by omega),Int.emod_lt_of_pos _ (by omega)⟩;obtain⟨S,R⟩:=hf.page b3;have l:=λY (hY:aA Y q (fF s t) 289)=>EV q s t Y hY (by omega) (by omega) (by omega);have i:=λY=>JB s.p s.c s.m (t.page s) Y;have n:=λY=>WF 1 t.c 0 Y;rw[S]at i;obtain⟨r,E⟩:∃r,r=ZD s t m:=⟨_,rfl⟩;rw[<-E];unfold ZD at E;rw[jN (by rw[hd];decide)]at E;dsimp only at E;rw[S]at E;have B:=λY (hY:oA Y p b m)=>uF p b m t.c (s.c+t.page s) Y hY R hs;have y:=λY (hY:oA Y p b m)=>WH p b m t.c (s.c+t.page s) 0 (WC t.c) Y hY R (sF _ _ _) hs;generalize s.c+t.page s=pa at B y i E;generalize b4:t.page s=pg at l i;have w1:=wrp (t.many+1);clear b4 R S b3 ho hf ba b9 hc b8;have b2:Hid (WC t.c=QA 1 t.c 0):=hd' rfl;rw[<-b2]at n;clear b2;generalize WC t.c=hw at n y E;have F:m.get pa=0\/(¬m.get pa=0/\(m.get pa==0)=false/\decide (m.get pa=0)=false):=by
  by_cases h:m.get pa=0
  .exact .inl h
  exact .inr ⟨h,by simpa using h,jF h⟩
 rcases jB t.empty with G|G
 .rw[jN (by rw[G];decide)]at E;obtain⟨V,j,D⟩:∃V:Pc,Hid (V=if m.get pa=0 then {t with found:=true,done:=true} else {t with empty:=false,many:=t.many+1,done:=decide (t.many+1=s.p)})/\V=_:=⟨_,hd' rfl,rfl⟩;rw[<-D]at E;clear D B;subst E;obtain⟨g,hg⟩:∃g,g=decide (m.get pa=0):=⟨_,rfl⟩;rw[<-hg]at y F;replace F:(m.get pa=0/\g=true)\/(¬m.get pa=0/\g=false):=F.elim (λh=>.inl ⟨h,by rw[hg,jT h]⟩) (λh=>.inr ⟨h.1,h.2.2⟩);clear hg;obtain⟨tc,tf,tm,L,M,b0⟩:=t;obtain⟨sp,sc,sm⟩:=s;dsimp only at hd G y l i n j w1|-;subst hd G;replace y:=hd' y;replace l:=hd' l;replace i:=hd' i;replace n:=hd' n;have lq:=h0.lt;have b5:=h0.cell;have c8:=ce (.bool false) (h0.cell 8);go_in;go_upto_region 1 with fail;refine wre ?_;repeat (go_big_quiet_step ((first|(go_at_call 187;exact AA (l _ (h0.row.below (Ext.below _))))|(go_at_call 112;exact AA (i _)))))
  refine wqn λX o=>?_;have J:=h0.below o;clear b5 c8 h0 lq;have bh:=J.cell;go_upto_region 5 with fail;have lX:=J.lt;refine wret 12 ?_;repeat (go_big_quiet_step (((go_at_call 139;exact AA (n _)))))
  refine wqn λZ o=>?_;have hZ:=J.below o;rcases F with⟨C,rfl⟩|⟨C,rfl⟩
  .replace j:=hd' (j.out.trans (jP C));clear C;go_wp2_with (go_at_call 222;(with_reducible refine(y _ hZ.wds).mono ?_);rintro r w2 ⟨rfl,I,H⟩;have z:=hZ.access I H;have bi:=z.cell;have zf:=z.free);go_returns;exact((z.set 7 _).set 8 _).fin (by rw[j];rfl) rfl
  replace j:=hd' (j.out.trans (jN C));clear C;go_upto_region 9 with(go_at_call 222;(with_reducible refine(y _ hZ.wds).mono ?_);rintro r w2 ⟨rfl,I,H⟩;have z:=hZ.access I H;have b6:=z.cell;have zf:=z.free);have N:=(z.set 6 (.bool false)).set 5 (.int .i64 (tm+1));clear z b6 zf;generalize World.setCell _ ⟨q,5,.none⟩ (.int .i64 (tm+1))=U at*;have bj:=N.cell;have lU:=N.lt;refine wret 13 ?_;repeat (go_big_quiet_step (fail))
  refine wqn λT o=>?_;have O:=N.below o;have bk:=O.cell;have zf:=O.free;go_wp2_with fail;go_returns;exact(O.set 8 _).fin (by rw[j];rfl) rfl
 rw[jP G]at E;obtain⟨V,j,D⟩:∃V:Pc,Hid (V=if m.get pa=0 then {t with empty:=true} else {t with empty:=false,many:=t.many+1,done:=decide (t.many+1=s.p)})/\V=_:=⟨_,hd' rfl,rfl⟩;rw[<-D]at E;clear D y n;subst E;obtain⟨x,hx⟩:∃x,x=m.get pa:=⟨_,rfl⟩;rw[<-hx]at B F j;clear hx;obtain⟨tc,tf,tm,L,M,b0⟩:=t;obtain⟨sp,sc,sm⟩:=s;dsimp only at hd G B l i j w1|-;subst hd G;replace B:=hd' B;replace l:=hd' l;replace i:=hd' i;have lq:=h0.lt;have b7:=h0.cell;have c8:=ce (.bool false) (h0.cell 8);go_in;go_upto_region 1 with fail;refine wre ?_;repeat (go_big_quiet_step ((first|(go_at_call 187;exact AA (l _ (h0.row.below (Ext.below _))))|(go_at_call 112;exact AA (i _)))))
 refine wqn λX o=>?_;have J:=h0.below o;clear b7 c8 h0 lq;have bm:=J.cell;rcases F with rfl|⟨C,F,_⟩
 .replace j:=hd' (j.out.trans (jP rfl));go_wp2_with (go_at_call 219;(with_reducible refine(B _ J.wds).mono ?_);rintro r w2 ⟨rfl,I,H⟩;have z:=J.load I H;have bn:=z.cell;have zf:=z.free);go_returns;exact(z.set 6 _).fin (by rw[j];rfl) rfl
 replace j:=hd' (j.out.trans (jN C));clear C;go_upto_region 9 with(go_at_call 219;(with_reducible refine(B _ J.wds).mono ?_);rintro r w2 ⟨rfl,I,H⟩;have z:=J.load I H;have b1:=z.cell;have zf:=z.free);have N:=((z.set 6 (.bool false)).set 6 (.bool false)).set 5 (.int .i64 (tm+1));clear z b1 zf;generalize World.setCell _ ⟨q,5,.none⟩ (.int .i64 (tm+1))=U at*;have bf:=N.cell;have lU:=N.lt;refine wret 13 ?_;repeat (go_big_quiet_step (fail))
 refine wqn λT o=>?_;have O:=N.below o;have bg:=O.cell;have zf:=O.free;go_wp2_with fail;go_returns;exact(O.set 8 _).fin (by rw[j];rfl) rfl
theorem LV(q p b:Nat)(s:Sh)(t:Sp)(m:Mem)(w:World)(hq:aA w q (IC s t) 292)(hw:oA w p b m)(bw:q≠p)(bv:q≠b)(hf:Fits s m)(ho:spOk s t)(hs:m.st<1000000000):
  Calls Tryz.prog 225 #[some q,some p] w λe w'=>Stepped q p b w w' e (IC s (SC s t m).1) 292 (SC s t m).2:=by
 have h0:=At3.start hq hw bw bv;clear hq hw;rcases jB t.done with hd|hd
 .have F:SC s t m=(t,m):=by unfold SC;rw[jP hd]
  rw[F];clear F;have c9:w.cell? ⟨q,9,.none⟩=some (.bool true):=by rw[<-hd];exact h0.cell 9
  clear ho hd hf;go_in;go_wp2_with fail;go_returns;exact h0.fin rfl rfl
 obtain⟨hc,N,hk,hi,b4⟩:=ho.cl hd;have ba:=hf.bd;have bb:=pH hk;obtain⟨U,b7⟩:=hf.page N;have y:=λY=>JB s.p s.c s.m t.page Y;rw[U]at y;have D:=λY=>WF 1 t.c 0 Y;have l:=λY=>tE 1 t.k Y;have z:=λY=>tE 2 t.c Y;have n:=λY=>gD t.k Y;obtain⟨r,F⟩:∃r,r=SC s t m:=⟨_,rfl⟩;rw[<-F];unfold SC at F;rw[jN (by rw[hd];decide)]at F;have bg:Hid (WC t.c=QA 1 t.c 0):=hd' rfl;have bh:Hid (BB t.k=VA 1 t.k):=hd' rfl;have bi:Hid (wayW t.c=VA 2 t.c):=hd' rfl;rw[<-bg]at D;rw[<-bh]at l;rw[<-bi]at z;have b5:0<=WC t.c/\WC t.c<18446744073709551616:=sF _ _ _;have b6:0<=BB t.k/\BB t.k<18446744073709551616:=IE _ _;have b8:0<=wayW t.c/\wayW t.c<18446744073709551616:=IE _ _;clear bg bh bi;rw[U]at F;have w1:=wrp (t.i-1);have w2:=wrp (t.i+1);rcases jB t.back with hb|hb
 .rw[jP hb]at F;have bu:=b4 hb;obtain⟨b0,V⟩:=hf.slot N (i:=t.i-1) (by omega);have j:=λY=>uE s.p s.c s.m t.page (t.i-1) Y;rw[b0]at j F;have E:=λY (G:oA Y p b m)=>tC p b m t.c (s.c+s.p+t.page*16+(t.i-1)) (BB t.k) Y G V b6 hs;generalize s.c+s.p+t.page*16+(t.i-1)=sa at j E F;generalize BB t.k=ow at*;clear y D z n b0 V b7 U ho hf hc N b4 b5 b6 b8 w2 ba bb hk;obtain⟨t2,o,B⟩:∃t2:Sp,Hid (t2={t with i:=t.i-1,done:=decide (t.i-1=0)})/\t2=_:=⟨_,hd' rfl,rfl⟩;rw[<-B]at F;clear B;subst F;obtain⟨tc,tg,tk,ti,b1,b3,b2⟩:=t;obtain⟨sp,sc,sm⟩:=s;dsimp only at hd hb E j l o w1|-;subst hd hb;replace E:=hd' E;replace j:=hd' j;replace l:=hd' l;clear hi bu;have lq:=h0.lt;have bj:=h0.cell;have c9:=ce (.bool false) (h0.cell 9);go_in;go_upto_region 4 with(go_at_call 141;(with_reducible refine(l _).mono ?_);rintro r w1 ⟨rfl,S⟩;have G:=h0.below S;have bk:=G.cell);have lY:=G.lt;clear bj c9 h0 lq;refine wret 20 ?_;repeat (go_big_quiet_step (((go_at_call 114;exact AA (j _)))))
  refine wqn λZ C=>?_;have R:=G.below C;clear bk G lY;go_wp2_with (go_at_call 218;(with_reducible refine(E _ R.wds).mono ?_);rintro r w2 ⟨rfl,M,J⟩;have H:=R.access M J;have c4:=H.cell;have zf:=H.free);go_returns;exact((H.set 6 _).set 9 _).fin (by rw[o];rfl) rfl
 rw[jN (by rw[hb];decide)]at F;have I:t.i=mA t.k\/(¬t.i=mA t.k/\(t.i==mA t.k)=false):=by
  by_cases h:t.i=mA t.k
  .exact .inl h
  exact .inr ⟨h,by simpa using h⟩
 rcases I with I|⟨bc,I⟩
 .rw[jP I]at F;have E:=λY (G:oA Y p b m)=>tC p b m t.c (s.c+t.page) (WC t.c) Y G b7 b5 hs;generalize s.c+t.page=pa at y E F;generalize BB t.k=ow at*;generalize WC t.c=hw at*;clear z b7 U ho hf hc N b4 b5 b6 b8 w2 w1 ba bb hk hi;obtain⟨t2,o,B⟩:∃t2:Sp,Hid (t2={t with held:=true,done:=true})/\t2=_:=⟨_,hd' rfl,rfl⟩;rw[<-B]at F;clear B;subst F;rw[<-I]at n;clear I;obtain⟨tc,tg,tk,ti,b1,b3,b2⟩:=t;obtain⟨sp,sc,sm⟩:=s;dsimp only at hd hb E y D l n o|-;subst hd hb;replace E:=hd' E;replace y:=hd' y;replace D:=hd' D;replace l:=hd' l;replace n:=hd' n;have lq:=h0.lt;have bm:=h0.cell;have c9:=ce (.bool false) (h0.cell 9);go_in;go_upto_region 7 with(go_at_call 141;(with_reducible refine(l _).mono ?_);rintro r w1 ⟨rfl,S⟩;have G:=h0.below S;have bn:=G.cell);have lY:=G.lt;clear bm c9 h0 lq;refine wre ?_;repeat (go_big_quiet_step (((go_at_call 75;exact yG ((n _).mono λ_ _ h=>⟨h.1,h.2⟩)))))
  refine wqn λX C=>?_;have O:=G.below C;clear bn G lY;go_upto_region 8 with fail;have lX:=O.lt;have bp:=O.cell;refine wret 20 ?_;repeat (go_big_quiet_step ((first|(go_at_call 112;exact AA (y _))|(go_at_call 139;exact AA (D _)))))
  refine wqn λZ C=>?_;have R:=O.below C;clear bp O lX;go_wp2_with (go_at_call 218;(with_reducible refine(E _ R.wds).mono ?_);rintro r w2 ⟨rfl,M,J⟩;have H:=R.access M J;have c5:=H.cell;have zf:=H.free);go_returns;exact((H.set 8 _).set 9 _).fin (by rw[o];rfl) rfl
 rw[jN bc]at F;obtain⟨b0,V⟩:=hf.slot N (i:=t.i) (by omega);have j:=λY=>uE s.p s.c s.m t.page t.i Y;rw[b0]at j F;have L:=λY (G:oA Y p b m)=>WH p b m t.c (s.c+s.p+t.page*16+t.i) (BB t.k) (wayW t.c) Y G V b8 hs;generalize s.c+s.p+t.page*16+t.i=sa at j L F;generalize BB t.k=ow at*;generalize wayW t.c=ww at*;obtain⟨t2,o,B⟩:∃t2:Sp,Hid (t2=if m.get sa=ow then {t with i:=t.i+1} else {t with back:=true,done:=decide (t.i=0)})/\t2=_:=⟨_,hd' rfl,rfl⟩;rw[<-B]at F;clear B;subst F;have bf:(m.get sa=ow/\decide (m.get sa=ow)=true)\/(¬m.get sa=ow/\decide (m.get sa=ow)=false):=by
  by_cases h:m.get sa=ow
  .exact .inl ⟨h,jT h⟩
  exact .inr ⟨h,jF h⟩
 generalize decide (m.get sa=ow)=g at L bf;generalize mA t.k=sv at*;clear D y b7 U b0 V ho hf hc N b4 b5 b6 b8 w1 ba bb hk hi bc;obtain⟨tc,tg,tk,ti,b1,b3,b2⟩:=t;obtain⟨sp,sc,sm⟩:=s;dsimp only at hd hb L j l z n o w2 I|-;subst hd hb;replace L:=hd' L;replace j:=hd' j;replace l:=hd' l;replace z:=hd' z;replace n:=hd' n;have lq:=h0.lt;have bq:=h0.cell;have c9:=ce (.bool false) (h0.cell 9);go_in;go_upto_region 7 with(go_at_call 141;(with_reducible refine(l _).mono ?_);rintro r w1 ⟨rfl,S⟩;have G:=h0.below S;have bs:=G.cell);have lY:=G.lt;clear bq c9 h0 lq;refine wre ?_;repeat (go_big_quiet_step (((go_at_call 75;exact yG ((n _).mono λ_ _ h=>⟨h.1,h.2⟩)))))
 refine wqn λX C=>?_;have O:=G.below C;clear bs G lY;go_upto_region 10 with fail;have lX:=O.lt;have b9:=O.cell;rcases bf with⟨T,rfl⟩|⟨T,rfl⟩
 .replace o:=hd' (o.out.trans (jP T));clear T;refine wret 25 ?_;repeat (go_big_quiet_step ((first|(go_at_call 114;exact AA (j _))|(go_at_call 141;exact AA (z _)))))
  refine wqn λZ C=>?_;have R:=O.below C;clear b9 O lX;go_wp2_with (go_at_call 222;(with_reducible refine(L _ R.wds).mono ?_);rintro r w2 ⟨rfl,M,J⟩;have H:=R.access M J;have bx:=H.cell;have zf:=H.free);go_returns;exact(H.set 6 _).fin (by rw[o];rfl) rfl
 replace o:=hd' (o.out.trans (jN T));clear T;refine wret 25 ?_;repeat (go_big_quiet_step ((first|(go_at_call 114;exact AA (j _))|(go_at_call 141;exact AA (z _)))))
 refine wqn λZ C=>?_;have R:=O.below C;clear b9 O lX;go_wp2_with (go_at_call 222;(with_reducible refine(L _ R.wds).mono ?_);rintro r w2 ⟨rfl,M,J⟩;have H:=R.access M J;have bz:=H.cell;have zf:=H.free);go_returns;exact((H.set 7 _).set 9 _).fin (by rw[o];rfl) rfl
end Go.Proofs.YtkilokkopbajkaaGreat

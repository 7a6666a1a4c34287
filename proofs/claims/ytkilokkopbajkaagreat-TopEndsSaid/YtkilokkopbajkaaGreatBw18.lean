
import Derived.Test.YtkilokkopbajkaaGreatBw15

set_option linter.all false
set_option maxHeartbeats 2000000
set_option maxRecDepth 100000
namespace Go.Proofs.YtkilokkopbajkaaGreat

open RowKit

attribute [local go_sem ↓] wp_at_zero wp_at_succ

def aG (b:Blk):Array Value:=#[b.large,b.page,b.slot,b.k,b.pages]
attribute [local go_sem] aG

theorem zjy(b:Blk)(w:World)(p:0<=b.page/\b.page<=64)(hs:b.large=false->0<=b.slot/\b.slot<=16):
  Calls Tryz.prog 146 #[.agg #[b.large,b.page,b.slot,b.k,b.pages]] w λe w'=>e=.returned (.int .i64 b.at')/\Below w.heap.size w w':=by
 unfold Blk.at';obtain⟨l,i,j,o,m⟩:=b;dsimp only at p hs|-;obtain⟨q,s⟩:=p;cases l
 .have n:=hd' (λY=>nX i j o Y ⟨q,s⟩ (hs rfl));clear hs;simp only[Bool.false_eq_true,if_false];generalize i*64+j*zA o=a at*;go_in;go_wp2_with (go_at_call 77;(with_reducible refine(n _).mono ?_);rintro r t ⟨rfl,rfl⟩);go_returns;exact⟨rfl,br.alloc lr _⟩
 have t:=wrp (i*64);simp only[if_true];clear hs;go_in;go_wp2_with fail;go_returns;exact⟨rfl,br.alloc lr _⟩
theorem zih(b:Blk)(w:World)(p:0<=b.pages/\b.pages<=64):
  Calls Tryz.prog 147 #[.agg #[b.large,b.page,b.slot,b.k,b.pages]] w λe w'=>e=.returned (.int .i64 b.len)/\Below w.heap.size w w':=by
 unfold Blk.len;obtain⟨i,l,m,o,j⟩:=b;dsimp only at p|-;obtain⟨s,t⟩:=p;cases i
 .have n:=hd' (λY=>vH o Y);simp only[Bool.false_eq_true,if_false];generalize zA o=a at*;go_in;go_wp2_with (go_at_call 78;(with_reducible refine(n _).mono ?_);rintro r q ⟨rfl,rfl⟩);go_returns;exact⟨rfl,br.alloc lr _⟩
 have q:=wrp (j*64);simp only[if_true];go_in;go_wp2_with fail;go_returns;exact⟨rfl,br.alloc lr _⟩
theorem eV(s:Sh)(c:Int)(b:Blk)(w:World):
  Calls Tryz.prog 173 #[.agg #[b.large,b.page,b.slot,b.k,b.pages],.agg #[s.p,s.c,s.m],c] w λe w'=>e=.returned (.bool (b.fits s c))/\Below w.heap.size w w':=by
 have I:=λW=>pC s.p s.c s.m c W;have M:=λW=>JB s.p s.c s.m b.page W;have D:=λW=>gD b.k W;have J:0<=pA s.p s.c s.m b.page->(0<=b.page/\b.page<64)/\0<s.p/\s.p<=64:=λh=>by have h1:=XE h;have h2:=JA.1 h1.1;omega
 obtain⟨g,S,F⟩:=hidv (b.fits s c);rw[<-F];clear F;have i:Hid (g=if uA s.p s.c s.m c<0\/pA s.p s.c s.m b.page<0 then false else if b.large=true then decide (1<=b.pages)&&decide (b.pages<=8)&&decide (b.pages<=s.p-b.page) else decide (0<=b.slot)&&decide (b.slot<mA b.k)):=S;clear S;generalize uA s.p s.c s.m c=sx at*;generalize pA s.p s.c s.m b.page=px at*;generalize mA b.k=sv at*;obtain⟨sp,sc,sm⟩:=s;obtain⟨q,n,l,V,j⟩:=b;dsimp only at I M J D i|-;replace I:=hd' I;replace M:=hd' M;replace D:=hd' D;have t0:=vE w (.cells #[q,n,l,V,j] 234) (.cells #[sp,sc,sm] 23);obtain⟨N,tb,tz,z⟩:=t0;go_in;go_upto_region 1 with fail;generalize (w.alloc (.cells #[q,n,l,V,j] 234)).alloc (.cells #[sp,sc,sm] 23)=W at*;obtain⟨H,hH,R⟩:=hidv w.heap.size;simp only[<-R]at N tb tz|-;have lH:H<W.heap.size:=by omega
 have bb:H+1<W.heap.size:=by omega
 have N:aA W H #[q,n,l,V,j] 234:=N;have tb:aA W (H+1) #[sp,sc,sm] 23:=tb;clear R tz;have b2:=tb.cell;rcases Int.lt_or_le sx 0 with h1|h1
 .replace i:=hd' (i.out.trans (jP (.inl h1)));go_wp2_with (first|(go_at_call 44;refine(I _).mono ?_;rintro r U ⟨rfl,o⟩));go_returns;exact⟨by rw[i];rfl,z.trans (o.mono z.size)⟩
 have q1:decide (sx<0)=false:=jF (Int.not_lt.2 h1);rcases Int.lt_or_le px 0 with h2|h2
 .replace i:=hd' (i.out.trans (jP (.inr h2)));go_wp2_with (first|(go_at_call 44;refine(I _).mono ?_;rintro r U ⟨rfl,o⟩;have B:=N.below o;have C:=tb.below o;have b3:=C.cell;have b4:=B.cell)|(go_at_call 112;refine(M _).mono ?_;rintro r w2 ⟨rfl,y⟩));go_returns;exact⟨by rw[i];rfl,z.trans ((qA o y).mono z.size)⟩
 obtain⟨⟨p1,p2⟩,p4,p3⟩:=J h2;replace i:=hd' (i.out.trans (jN (by omega)));have q2:decide (px<0)=false:=jF (Int.not_lt.2 h2);have U:=wrp (sp-n);clear J;rcases jB q with T|T
 .replace i:=hd' (i.out.trans (jP T));subst T;have G:(j<1)\/(1<=j/\8<j)\/(1<=j/\j<=8/\sp-n<j)\/(1<=j/\j<=8/\j<=sp-n):=by omega
  rcases G with h3|⟨h3,h4⟩|⟨h3,h4,O⟩|⟨h3,h4,O⟩;case' inl.inl=>replace i:=hd' (i.out.trans (by rw[jF (Int.not_le.2 h3)];rfl:_=false))
  case' inl.inr.inl=>replace i:=hd' (i.out.trans (by rw[jF (Int.not_le.2 h4),Bool.and_false,Bool.false_and]:_=false))
  case' inl.inr.inr.inl=>replace i:=hd' (i.out.trans (by rw[jF (Int.not_le.2 O),Bool.and_false]:_=false));have q5:decide (j<=sp-n)=false:=jF (Int.not_le.2 O)
  case' inl.inr.inr.inr=>replace i:=hd' (i.out.trans (by rw[jT h3,jT h4,jT O];rfl:_=true));have q5:decide (j<=sp-n)=true:=jT O
  all_goals go_wp2_with (first|(go_at_call 44;refine(I _).mono ?_;rintro r U ⟨rfl,o⟩;have B:=N.below o;have C:=tb.below o;have b5:=C.cell;have b6:=B.cell)|(go_at_call 112;refine(M _).mono ?_;rintro r w2 ⟨rfl,y⟩;have E:=B.below y;have L:=C.below y;have b7:=L.cell;have b8:=E.cell));go_returns;exact⟨by rw[i];rfl,z.trans ((qA o y).mono z.size)⟩
 replace i:=hd' (i.out.trans (jN (by rw[T];decide)));subst T;have G:(l<0)\/(0<=l/\sv<=l)\/(0<=l/\l<sv):=by omega
 rcases G with h3|⟨h3,h4⟩|⟨h3,h4⟩;case' inr.inr.inr.inl=>replace i:=hd' (i.out.trans (by rw[jF (Int.not_le.2 h3)];rfl:_=false));have q3:decide (0<=l)=false:=jF (Int.not_le.2 h3)
 case' inr.inr.inr.inr.inl=>replace i:=hd' (i.out.trans (by rw[jF (Int.not_lt.2 h4),Bool.and_false]:_=false));have q3:decide (0<=l)=true:=jT h3;have q4:decide (l<sv)=false:=jF (Int.not_lt.2 h4)
 case' inr.inr.inr.inr.inr=>replace i:=hd' (i.out.trans (by rw[jT h3,jT h4];rfl:_=true));have q3:decide (0<=l)=true:=jT h3;have q4:decide (l<sv)=true:=jT h4
 all_goals
  go_upto_region 5 with(first|(go_at_call 44;refine(I _).mono ?_;rintro r U ⟨rfl,o⟩;have B:=N.below o;have C:=tb.below o;have b9:=C.cell;have ba:=B.cell)|(go_at_call 112;refine(M _).mono ?_;rintro r w2 ⟨rfl,y⟩;have E:=B.below y;have L:=C.below y;have b0:=L.cell;have b1:=E.cell));have bc:H<w2.heap.size:=E.lt;refine wre ?_;repeat (go_big_quiet_step (((go_at_call 75;exact yG ((D _).mono λ_ _ h=>⟨h.1,h.2⟩)))))
  refine wqn λX Y=>?_;have Z:=Y;go_wp2_with fail;go_returns;exact⟨by rw[i];rfl,z.trans ((qA (qA o y) Z).mono z.size)⟩
def xE (s:Sh) (t:Cm):Array Value:=#[s.p,s.c,s.m,t.c,t.b.large,t.b.page,t.b.slot,t.b.k,t.b.pages,t.done]
attribute [local go_sem] xE

def AG (s:Sh) (t:Un):Array Value:=#[s.p,s.c,s.m,t.c,t.b.large,t.b.page,t.b.slot,t.b.k,t.b.pages,t.i,t.done]
attribute [local go_sem] AG

theorem jX(s:Sh)(c:Int)(b:Blk)(w:World):
  Calls Tryz.prog 164 #[.agg #[s.p,s.c,s.m],c,.agg #[b.large,b.page,b.slot,b.k,b.pages]] w λe w'=>Born w w' e (xE s (zB s c b)) 276:=by
 have q:=λW=>eV s c b W;have F:xE s (zB s c b)=#[.int .i64 s.p,.int .i64 s.c,.int .i64 s.m,.int .i64 c,.bool b.large,.int .i64 b.page,.int .i64 b.slot,.int .i64 b.k,.int .i64 b.pages,.bool (!b.fits s c)]:=rfl;rw[F];clear F;generalize b.fits s c=g at*;obtain⟨sp,D,E⟩:=s;obtain⟨i,l,n,y,j⟩:=b;dsimp only at q|-;replace q:=hd' q;have t0:=vE w (.cells #[sp,D,E] 23) (.cells #[i,l,n,y,j] 234);obtain⟨r,tb,G,B⟩:=t0;go_in;go_upto_region 1 with fail;generalize (w.alloc (.cells #[sp,D,E] 23)).alloc (.cells #[i,l,n,y,j] 234)=W at*;obtain⟨H,M,o⟩:=hidv w.heap.size;simp only[<-o]at r tb G|-;have N:H<W.heap.size:=by omega
 have L:H+1<W.heap.size:=by omega
 have r:aA W H #[sp,D,E] 23:=r;have tb:aA W (H+1) #[i,l,n,y,j] 234:=tb;clear o G;have I:=r.cell;have J:=tb.cell;refine wret 9 ?_;repeat (go_big_quiet_step (((go_at_call 173;exact AA (q _)))))
 refine wqn λX z=>?_;have C:=z;go_wp2_with fail;go_returns;exact WB B C rfl
theorem z3q(s:Sh)(c:Int)(b:Blk)(w:World):
  Calls Tryz.prog 165 #[.agg #[s.p,s.c,s.m],c,.agg #[b.large,b.page,b.slot,b.k,b.pages]] w λe w'=>Born w w' e (AG s (UC s c b)) 274:=by
 have q:=λW=>eV s c b W;have F:AG s (UC s c b)=#[.int .i64 s.p,.int .i64 s.c,.int .i64 s.m,.int .i64 c,.bool b.large,.int .i64 b.page,.int .i64 b.slot,.int .i64 b.k,.int .i64 b.pages,.int .i64 0,.bool (!b.fits s c)]:=rfl;rw[F];clear F;generalize b.fits s c=g at*;obtain⟨sp,D,E⟩:=s;obtain⟨i,l,n,y,j⟩:=b;dsimp only at q|-;replace q:=hd' q;have t0:=vE w (.cells #[sp,D,E] 23) (.cells #[i,l,n,y,j] 234);obtain⟨r,tb,G,B⟩:=t0;go_in;go_upto_region 1 with fail;generalize (w.alloc (.cells #[sp,D,E] 23)).alloc (.cells #[i,l,n,y,j] 234)=W at*;obtain⟨H,M,o⟩:=hidv w.heap.size;simp only[<-o]at r tb G|-;have N:H<W.heap.size:=by omega
 have L:H+1<W.heap.size:=by omega
 have r:aA W H #[sp,D,E] 23:=r;have tb:aA W (H+1) #[i,l,n,y,j] 234:=tb;clear o G;have I:=r.cell;have J:=tb.cell;refine wret 9 ?_;repeat (go_big_quiet_step (((go_at_call 173;exact AA (q _)))))
 refine wqn λX z=>?_;have C:=z;go_wp2_with fail;go_returns;exact WB B C rfl
theorem uV(q:Nat)(cs:Array Value)(v:Bool)(w:World)(h:aA w q cs 276)(b:cs[9]?=some (.bool v)):Calls Tryz.prog 160 #[some q] w λe w'=>e=.returned (.bool v)/\w'=w:=by
 have c:=(h.cell 9).trans b;clear h b;go_in;go_wp2_with fail;go_returns;exact⟨rfl,rfl⟩
theorem yU(w:World):Calls Tryz.prog 160 #[.pointer none] w λe w'=>e=.returned (.bool false)/\w'=w:=by
 go_in;go_wp2_with fail;go_returns;exact⟨rfl,rfl⟩
theorem zx6(q:Nat)(cs:Array Value)(v:Bool)(w:World)(h:aA w q cs 274)(b:cs[10]?=some (.bool v)):Calls Tryz.prog 159 #[some q] w λe w'=>e=.returned (.bool v)/\w'=w:=by
 have c:=(h.cell 10).trans b;clear h b;go_in;go_wp2_with fail;go_returns;exact⟨rfl,rfl⟩
theorem zof(w:World):Calls Tryz.prog 159 #[.pointer none] w λe w'=>e=.returned (.bool false)/\w'=w:=by
 go_in;go_wp2_with fail;go_returns;exact⟨rfl,rfl⟩
theorem IV(q p b:Nat)(s:Sh)(t:Cm)(m:Mem)(w:World)(hq:aA w q (xE s t) 276)(hw:oA w p b m)(b7:q≠p)(b6:q≠b)(U:Fits s m)(ho:cmOk s t)(hs:m.st<1000000000):
  Calls Tryz.prog 215 #[some q,some p] w λe w'=>Stepped q p b w w' e (xE s (GB s t m).1) 276 (GB s t m).2:=by
 have h0:=At3.start hq hw b7 b6;clear hq hw;rcases jB t.done with hd|hd
 .have z:GB s t m=(t,m):=by unfold GB;rw[jP hd]
  rw[z];clear z;have c9:w.cell? ⟨q,9,.none⟩=some (.bool true):=by rw[<-hd];exact h0.cell 9
  clear ho hd U;go_in;go_wp2_with fail;go_returns;exact h0.fin rfl rfl
 obtain⟨H,hc,E,V,F⟩:=LE.1 (ho hd);obtain⟨r,z⟩:∃r,r=GB s t m:=⟨_,rfl⟩;rw[<-z];unfold GB at z;rw[jN (by rw[hd];decide)]at z;rcases jB t.b.large with G|G
 .rw[jP G]at z;obtain⟨b0,X⟩:=U.page E;have n:=λY=>JB s.p s.c s.m t.b.page Y;rw[b0]at n z;have j:=λY=>WF 3 t.b.pages 0 Y;have l:=λY (hY:oA Y p b m)=>tC p b m t.c (s.c+t.b.page) (QA 3 t.b.pages 0) Y hY X (sF _ _ _) hs;generalize s.c+t.b.page=pa at*;generalize QA 3 t.b.pages 0=pv at*;obtain⟨R,B,y⟩:∃R:Cm,Hid (R={t with done:=true})/\R=_:=⟨_,hd' rfl,rfl⟩;rw[<-y]at z;clear y b0 X V F E hc H ho U;subst z;obtain⟨tc,tb,S⟩:=t;obtain⟨C,I,J,bk,D⟩:=tb;obtain⟨sp,sc,sm⟩:=s;dsimp only at hd G n j l B|-;subst hd G;replace n:=hd' n;replace j:=hd' j;replace l:=hd' l;have lq:=h0.lt;have b4:=h0.cell;have c9:=ce (.bool false) (h0.cell 9);go_in;go_upto_region 2 with fail;refine wret 22 ?_;repeat (go_big_quiet_step ((first|(go_at_call 112;exact AA (n _))|(go_at_call 139;exact AA (j _)))))
  refine wqn λZ M=>?_;have T:=h0.below M;clear b4 c9 h0 lq;go_wp2_with (go_at_call 218;(with_reducible refine(l _ T.wds).mono ?_);rintro r w2 ⟨rfl,O,N⟩;have L:=T.access O N;have b9:=L.cell;have zf:=L.free);go_returns;exact(L.set 9 _).fin (by rw[B];rfl) rfl
 rw[jN (by rw[G];decide)]at z;have F:=F G;have b8:=pH (k:=t.b.k) (by omega);obtain⟨b2,b1⟩:=U.slot E (i:=t.b.slot) (by omega);have o:=λY=>uE s.p s.c s.m t.b.page t.b.slot Y;rw[b2]at o z;have j:=λY=>tE 3 t.b.k Y;have b3:Hid (CE t.b.k=VA 3 t.b.k):=hd' rfl;rw[<-b3]at j;have l:=λY (hY:oA Y p b m)=>tC p b m t.c (s.c+s.p+t.b.page*16+t.b.slot) (CE t.b.k) Y hY b1 (IE _ _) hs;generalize s.c+s.p+t.b.page*16+t.b.slot=sa at*;generalize CE t.b.k=tw at*;obtain⟨R,B,y⟩:∃R:Cm,Hid (R={t with done:=true})/\R=_:=⟨_,hd' rfl,rfl⟩;rw[<-y]at z;clear y b2 b1 V F E hc H ho U b8 b3;subst z;obtain⟨tc,tb,S⟩:=t;obtain⟨C,I,J,bk,D⟩:=tb;obtain⟨sp,sc,sm⟩:=s;dsimp only at hd G o j l B|-;subst hd G;replace o:=hd' o;replace j:=hd' j;replace l:=hd' l;have lq:=h0.lt;have b5:=h0.cell;have c9:=ce (.bool false) (h0.cell 9);go_in;go_upto_region 3 with fail;refine wret 27 ?_;repeat (go_big_quiet_step ((first|(go_at_call 114;exact AA (o _))|(go_at_call 141;exact AA (j _)))))
 refine wqn λZ M=>?_;have T:=h0.below M;clear b5 c9 h0 lq;go_wp2_with (go_at_call 218;(with_reducible refine(l _ T.wds).mono ?_);rintro r w2 ⟨rfl,O,N⟩;have L:=T.access O N;have ba:=L.cell;have zf:=L.free);go_returns;exact(L.set 9 _).fin (by rw[B];rfl) rfl
theorem zyo(q p b:Nat)(s:Sh)(t:Un)(m:Mem)(w:World)(hq:aA w q (AG s t) 274)(hw:oA w p b m)(bg:q≠p)(bf:q≠b)(hf:Fits s m)(ho:unOk s t)(hs:m.st<1000000000):
  Calls Tryz.prog 246 #[some q,some p] w λe w'=>Stepped q p b w w' e (AG s (QB s t m).1) 274 (QB s t m).2:=by
 have h0:=At3.start hq hw bg bf;clear hq hw;rcases jB t.done with hd|hd
 .have y:QB s t m=(t,m):=by unfold QB;rw[jP hd]
  rw[y];clear y;have G:w.cell? ⟨q,10,.none⟩=some (.bool true):=by rw[<-hd];exact h0.cell 10
  clear ho hd hf;go_in;go_wp2_with fail;go_returns;exact h0.fin rfl rfl
 obtain⟨F,N⟩:=ho.cl hd;obtain⟨R,hc,T,O,b0⟩:=LE.1 F;have b3:=hf.bd;obtain⟨r,y⟩:∃r,r=QB s t m:=⟨_,rfl⟩;rw[<-y];unfold QB at y;rw[jN (by rw[hd];decide)]at y;rcases jB t.b.large with I|I
 .rw[jN (by rw[I];decide)]at y;have O:=O I;have N:=N I;have w1:=wrp (t.b.pages-1);have w2:=wrp (t.i+1);have w3:=wrp (t.b.page+t.i);have w4:=wrp (t.b.page+t.i+1);by_cases H:t.i=t.b.pages-1
  .rw[jP H]at y;have b4:(t.i==t.b.pages-1)=true:=by simpa using H
   obtain⟨V,U⟩:=hf.page T;have j:=λY=>JB s.p s.c s.m t.b.page Y;rw[V]at j y;have l:=λY (hY:oA Y p b m)=>tC p b m t.c (s.c+t.b.page) 0 Y hY U (by decide) hs;generalize s.c+t.b.page=pa at*;obtain⟨t2,C,n⟩:∃t2:Un,Hid (t2={t with done:=true})/\t2=_:=⟨_,hd' rfl,rfl⟩;rw[<-n]at y;clear n V U O b0 T hc R ho hf N w2 w3 w4 b3 F H;subst y;obtain⟨tc,tb,ti,b2⟩:=t;obtain⟨D,J,L,bk,E⟩:=tb;obtain⟨sp,sc,sm⟩:=s;dsimp only at hd I j l C w1 b4|-;subst hd I;replace j:=hd' j;replace l:=hd' l;have lq:=h0.lt;have b8:=h0.cell;have G:=ce (.bool false) (h0.cell 10);go_in;go_upto_region 6 with fail;refine wre ?_;repeat (go_big_quiet_step (fail))
   refine wqn λX o=>?_;have hX:=h0.below o;clear b8 G h0 lq;have b9:=hX.cell;go_upto_region 7 with fail;have lX:=hX.lt;refine wret 15 ?_;repeat (go_big_quiet_step (((go_at_call 112;exact AA (j _)))))
   refine wqn λZ o=>?_;have hZ:=hX.below o;clear b9 hX lX;go_wp2_with (go_at_call 218;(with_reducible refine(l _ hZ.wds).mono ?_);rintro r w2 ⟨rfl,b1,S⟩;have M:=hZ.access b1 S;have bi:=M.cell;have zf:=M.free);go_returns;exact(M.set 10 _).fin (by rw[C];rfl) rfl
  rw[jN H]at y;have b4:(t.i==t.b.pages-1)=false:=by simpa using H
  obtain⟨V,U⟩:=hf.page (x:=t.b.page+t.i+1) (by omega);have j:=λY=>JB s.p s.c s.m (t.b.page+t.i+1) Y;rw[V]at j y;have l:=λY (hY:oA Y p b m)=>tC p b m t.c (s.c+(t.b.page+t.i+1)) 0 Y hY U (by decide) hs;generalize s.c+(t.b.page+t.i+1)=pa at*;obtain⟨t2,C,n⟩:∃t2:Un,Hid (t2={t with i:=t.i+1})/\t2=_:=⟨_,hd' rfl,rfl⟩;rw[<-n]at y;clear n V U O b0 T hc R ho hf N b3 F H;subst y;obtain⟨tc,tb,ti,b2⟩:=t;obtain⟨D,J,L,bk,E⟩:=tb;obtain⟨sp,sc,sm⟩:=s;dsimp only at hd I j l C w1 w2 w3 w4 b4|-;subst hd I;replace j:=hd' j;replace l:=hd' l;have lq:=h0.lt;have ba:=h0.cell;have G:=ce (.bool false) (h0.cell 10);go_in;go_upto_region 6 with fail;refine wre ?_;repeat (go_big_quiet_step (fail))
  refine wqn λX o=>?_;have hX:=h0.below o;clear ba G h0 lq;have bb:=hX.cell;go_upto_region 0 with fail;have lX:=hX.lt;refine wret 21 ?_;repeat (go_big_quiet_step (((go_at_call 112;exact AA (j _)))))
  refine wqn λZ o=>?_;have hZ:=hX.below o;clear bb hX lX;go_wp2_with (go_at_call 218;(with_reducible refine(l _ hZ.wds).mono ?_);rintro r w2 ⟨rfl,b1,S⟩;have M:=hZ.access b1 S;have bj:=M.cell;have zf:=M.free);go_returns;exact(M.set 9 _).fin (by rw[C];rfl) rfl
 rw[jP I]at y;have b0:=b0 I;have bh:=pH (k:=t.b.k) (by omega);obtain⟨b6,b5⟩:=hf.slot T (i:=t.b.slot) (by omega);have z:=λY=>uE s.p s.c s.m t.b.page t.b.slot Y;rw[b6]at z y;have B:=λY=>tE 1 t.b.k Y;have b7:Hid (BB t.b.k=VA 1 t.b.k):=hd' rfl;rw[<-b7]at B;have l:=λY (hY:oA Y p b m)=>tC p b m t.c (s.c+s.p+t.b.page*16+t.b.slot) (BB t.b.k) Y hY b5 (IE _ _) hs;generalize s.c+s.p+t.b.page*16+t.b.slot=sa at*;generalize BB t.b.k=tw at*;obtain⟨t2,C,n⟩:∃t2:Un,Hid (t2={t with done:=true})/\t2=_:=⟨_,hd' rfl,rfl⟩;rw[<-n]at y;clear n b6 b5 O b0 T hc R ho hf bh b7 b3 F N;subst y;obtain⟨tc,tb,ti,b2⟩:=t;obtain⟨D,J,L,bk,E⟩:=tb;obtain⟨sp,sc,sm⟩:=s;dsimp only at hd I z B l C|-;subst hd I;replace z:=hd' z;replace B:=hd' B;replace l:=hd' l;have lq:=h0.lt;have bc:=h0.cell;have G:=ce (.bool false) (h0.cell 10);go_in;go_upto_region 4 with fail;refine wret 27 ?_;repeat (go_big_quiet_step ((first|(go_at_call 114;exact AA (z _))|(go_at_call 141;exact AA (B _)))))
 refine wqn λZ o=>?_;have hZ:=h0.below o;clear bc G h0 lq;go_wp2_with (go_at_call 218;(with_reducible refine(l _ hZ.wds).mono ?_);rintro r w2 ⟨rfl,b1,S⟩;have M:=hZ.access b1 S;have bm:=M.cell;have zf:=M.free);go_returns;exact(M.set 10 _).fin (by rw[C];rfl) rfl
end Go.Proofs.YtkilokkopbajkaaGreat

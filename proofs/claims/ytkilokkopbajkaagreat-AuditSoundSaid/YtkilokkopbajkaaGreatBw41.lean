/- Lemmas for the claim. -/
import Derived.Test.YtkilokkopbajkaaGreatBw40

set_option linter.all false
set_option maxHeartbeats 4000000
set_option maxRecDepth 100000
namespace Go.Proofs.YtkilokkopbajkaaGreat

section

open Go.RowKit

attribute [local go_sem ↓] Go.wp_at_zero Go.wp_at_succ

theorem yez(s:Sh)(W:World)(n:¬ mayB s.p s.c s.m=true):
  Calls Tryz.prog 42 #[.agg #[s.p,s.c,s.m]] W fun e w'=>Below W.heap.size W w'/\e= .returned (.tuple #[.pointer none,.int .i64 1]):=by
 have i:=fun Y=>UG s.p s.c s.m Y;have j:mayB s.p s.c s.m=false:=by simpa using n
 rw[j]at i;obtain⟨sp,o,q⟩:=s;dsimp only at *;replace i:=hd' i;clear n j;go_in;go_wp2_with (first|(go_at_call 21;refine(i _).mono ?_;rintro r t ⟨rfl,l⟩;obtain rfl:=l.symm));go_returns;exact⟨by go_grown,rfl⟩
theorem JQ(s:Sh)(W:World)(y:¬ mayB s.p s.c s.m=true):
  Calls Tryz.prog 10 #[.agg #[s.p,s.c,s.m]] W fun e w'=>Below W.heap.size W w'/\e= .returned (.tuple #[.pointer none,.pointer none]):=by
 have l:=fun Y=>z8i s Y y;have n:=fun Y=>yez s Y y;have o:=(Below.refl W.heap.size W).alloc lr (.cells #[s.p,s.c,s.m] 23);have t0:aA (W.alloc (.cells #[s.p,s.c,s.m] 23)) W.heap.size #[s.p,s.c,s.m] 23:=jA _ _;have z:∀ W:World,(binOp .eql 27 (.pointer none) (.pointer none)).run Tryz.prog W= .ok (.bool true) W:=fun W=>by kernel_rfl
 replace l:=hd' l;replace n:=hd' n;clear y;go_in;go_upto_region 1 with fail;generalize W.alloc (.cells #[s.p,s.c,s.m] 23)=X at *;obtain⟨H,D,i⟩:=hidv W.heap.size;rw[<-i]at t0 ⊢;clear i;have B:=t0.cell;go_wp2_with (first|(go_at_call 41;refine(l _).mono ?_;rintro r E ⟨j,rfl⟩;have t1:=t0.below j;have C:=t1.cell)|(go_at_call 42;refine(n _).mono ?_;rintro r F ⟨q,rfl⟩));go_returns;exact⟨xA (xA o j) q,rfl⟩
theorem ylw(p:Pt)(e:Ev)(b o:Nat)(w:World)(h:RpAt w b o p):
  Calls Tryz.prog 138 #[.pointer (some ⟨b,o,.none⟩),e.val] w fun r w'=>r= .returned (.bool (DC p e))/\Below w.heap.size w w':=by
 unfold Ev.val Ev.cells;have i:=fun X=>xN p.n X;have j:=(Below.refl w.heap.size w).alloc lr (.cells #[e.k,e.c,e.ok,e.oa,e.on,e.at',e.n,e.er] 62);have h2:=h.below j;have t1:=jA w (.cells #[e.k,e.c,e.ok,e.oa,e.on,e.at',e.n,e.er] 62);go_in;go_upto_region 1 with fail;generalize w.alloc (.cells #[e.k,e.c,e.ok,e.oa,e.on,e.at',e.n,e.er] 62)=W at *;obtain⟨B,c0,c1,c2,c3,c4,c5,c6,c7,c8,c9,l⟩:=h2;have m:=kA t1 5;have q:=kA t1 7;clear c0 c1 c2 c7 l t1 h;have y:W.cell? ⟨w.heap.size,5,.none⟩=some (.int .i64 e.at'):=m;have z:W.cell? ⟨w.heap.size,7,.none⟩=some (.int .i64 e.er):=q;clear m q;replace i:=hd' i;go_wp2_with (first|(go_at_call 19;refine(i _).mono ?_;rintro r D ⟨rfl,C⟩;obtain rfl:=C.symm))
 all_goals first
  |go_returns
  |(rcases jB p.took with s|s<;>rw[s]at c3<;>(go_quiet (fail))<;>go_wp2<;>go_returns)
 all_goals exact⟨pG (by clear c3 c4 c5 c6 c8 c9 y z i j;first|(simp_all [DC,CE,XF];done)|(rw[Bool.eq_iff_iff];simp_all [DC,CE,XF])),by first|exact j|exact below_drewN j _⟩
theorem ym8{B:Nat}{w:World}{jb s pb:Nat}{sl:Value}{J:Jd}(h:JrA B w jb s pb sl J)(e:Ev)(i o:Nat)(p:Pt)(hi:i<J.ps.length)(hp:J.ps[i]=p)(L:o=i*10)(hk:e.k=3/\(p.k=1\/p.k≠1/\p.k=3/\p.gave=true)/\p.took=false/\lenB p.n=true/\lenV p.n=e.n/\AB J.W J.l e.at' e.n=true):
  Calls Tryz.prog 110 #[some jb,.pointer (some ⟨pb,o,.none⟩),e.val] w fun r w'=>r= .returned (.int .i64 0)/\zC B w w' jb s pb sl {J with l:=putB J.l e.at' e.n,ps:=J.ps.set i {p with took:=true,at':=e.at'}}:=by
 obtain⟨U,hk,ht,hl,hv,y⟩:=hk;replace U:=hd' U;have bc:(-9223372036854775808<=e.at'/\e.at'<=9223372036854775807)/\(-9223372036854775808<=e.n/\e.n<=9223372036854775807):=by
  have h1:DF J.W e.at' e.n=true:=by unfold AB at y;exact(Bool.and_eq_true_iff.1 y).1
  have h2:=h.model.small;simp only[DF,decide_eq_true_eq]at h1;omega
 obtain⟨ha,hn⟩:=bc;unfold Ev.val Ev.cells;have C:=(Below.refl w.heap.size w).alloc lr (.cells #[e.k,e.c,e.ok,e.oa,e.on,e.at',e.n,e.er] 62);have t1:=jA w (.cells #[e.k,e.c,e.ok,e.oa,e.on,e.at',e.n,e.er] 62);have hJ:=h.below C;obtain⟨bk,c0,c1,c2,c3,c4,c5,c6,c7,c8,c9,bf⟩:=L ▸ (hJ.row.pt i hi hp);replace L:=hd' L;replace hp:=hd' hp;replace hi:=hd' hi;have bm:=h.lt;have bn:=h.row.lt;have bp:=h.model.lt;have bh:∀ k,sl.ownBlock=some k->k<w.heap.size:=fun k hk=>(h.model.owns.lt k hk).2;have m:=fun X=>xN p.n X;rw[hl,hv]at m;replace m:=hd' m;have bv:(e.n !=e.n)=false:=by simp
 have O:Hid (∀ X,RM B X s sl J.W J.l->jK 28 #[some s,e.at',e.n] X fun r w'=>r= .returned (.bool true)/\∃ j,RM B w' s j J.W (putB J.l e.at' e.n)/\Only (foot s sl) X w'/\∀ k,foot s j k->foot s sl k\/X.heap.size<=k):=hd' fun X hX=>by have:=iR hX e.at' e.n ha.1 ha.2 hn.1 hn.2;rwa [yN y,y]at this
 have I:Hid (∀ X q j,jW w X->JrA B X jb s pb sl J->RM B q s j J.W (putB J.l e.at' e.n)->Only (foot s sl) X q->(∀ k,foot s j k->foot s sl k\/X.heap.size<=k)->zC B w q jb s pb sl {J with l:=putB J.l e.at' e.n}):=hd' fun X q j hw hj hm L hf=>zC.lower hw ⟨⟨j,hj.setM hm L hf,fun k e=>by
  rcases hf k (.inr e) with(h1|h1)|h1
  ·exact absurd (h1 ▸ e) hm.apart
  ·exact .inl h1
  ·exact .inr h1⟩,L.mono' fun k e=>.inr (.inr e)⟩
 clear hl hv y;rcases hk with hk|⟨bs,bu,hg⟩;all_goals
  go_in;go_upto_region 1 with fail;generalize w.alloc (.cells #[e.k,e.c,e.ok,e.oa,e.on,e.at',e.n,e.er] 62)=W at *;obtain⟨E,hE,b0⟩:=hidv w.heap.size;rw[<-b0]at t1 ⊢;have e0:W.cell? ⟨E,0,.none⟩=some (.int .i64 e.k):=kA t1 0;rw[U]at e0;have e5:W.cell? ⟨E,5,.none⟩=some (.int .i64 e.at'):=kA t1 5;have b7:=kA t1;have h0:=hJ.h0;have lj:jb<W.heap.size:=hJ.lt;have lE:E<W.heap.size:=(jE t1);clear b0;go_upto_region 10 with(first|(go_at_call 19;refine(m _).mono ?_;rintro r w1 ⟨rfl,hw⟩;obtain rfl:=hw.symm));refine wret 8 ?_;repeat (go_big_quiet_step (fail))
  refine wqn fun X bb=>?_;have D:=bb;have bi:=C.trans (D.mono C.size);have T:=hJ.below D;have z:=iA D _ _ _ e5;have b6:E<X.heap.size:=bG z;clear c0 c1 c2 c3 c4 c5 c6 c7 c8 c9 bf e0 e5 b7 h0 t1 D C hJ;go_wp2_with (first|(go_at_call 28;(with_reducible refine(O X T.model).mono ?_);rintro r q ⟨rfl,j,hm,Z,b2⟩));have ba:=I X q j bi T hm Z b2;obtain⟨⟨bj,S,bg⟩,b1⟩:=ba;have b8:¬ foot s sl E:=by
   have bq:=hE.out;rintro(e|e)
   ·omega
   have:=bh E e;omega
  have R:q.cell? ⟨E,5,.none⟩=some (.int .i64 e.at'):=by have:=Z.block E b6 b8;simp only[World.cell?,this]at z ⊢;exact z
  have bw:E<q.heap.size:=bG R;have G:RrP q pb J.ps:=S.row;have bx:pb<q.heap.size:=G.lt;have b9:E≠pb:=by have:=hE.out;omega
  have F:RpAt q pb o p:=L.out ▸ (G.pt i hi hp.out);have p3:=F.c3;have p9:=F.c9;have pf:=F.fr;have M:RrP q pb (J.ps.set i p):=by rw[<-hp,List.set_getElem_self];exact G
  have z0:=RrP.put (q':= {p with took:=true}) hi 3 (.bool true) (Only.refl (atR pb) q) M rfl (by omega);have z1:=RrP.put (q':= {p with took:=true,at':=e.at'}) hi 9 (.int .i64 e.at') z0.1 z0.2 rfl (by omega);rw[<-L]at z1;have V:Hid (∀ W3,RrP W3 pb (J.ps.set i {p with took:=true,at':=e.at'})->Only (atR pb) q W3->zC B w W3 jb s pb sl {J with l:=putB J.l e.at' e.n,ps:=J.ps.set i {p with took:=true,at':=e.at'}}):=hd' fun W3 hr b5=>⟨⟨bj,S.setP (by rw[List.length_set]) hr b5,bg⟩,b1.trans b5 fun k _ e=>.inr (.inl e)⟩;replace z1:=hd' z1;clear z0 M F G S hm Z b2 b1 I O T z b6;have b4:Hid (∀ (Y:World) (a:Nat) (v:Value),Y.cell? ⟨E,5,.none⟩=some (.int .i64 e.at')->(Y.setCell ⟨pb,a,.none⟩ v).cell? ⟨E,5,.none⟩=some (.int .i64 e.at')):=hd' fun Y a v h=>by have:=heap_setCell_other Y ⟨pb,a,.none⟩ E v (by simpa using b9);simp only[World.cell?,this]at h ⊢;exact h
  have b3:Hid (∀ (Y:World) (a:Nat) (v:Value),Y.cell? ⟨E,5,.none⟩=some (.int .i64 e.at')->(Y.setCell ⟨pb,a,.none⟩ v).drew.cell? ⟨E,5,.none⟩=some (.int .i64 e.at')):=hd' fun Y a v h=>b4 Y a v h
  go_region_held3 (fun Y=>Y.cell? ⟨E,5,.none⟩=some (.int .i64 e.at'))
   (first|exact b3 _ _ _ R|exact b3 _ _ _ (b4 _ _ _ R)|go_keep)
   (fail)
  go_wp2;go_ret;exact⟨rfl,V _ z1.out.2 z1.out.1.drew⟩
theorem ynb{B:Nat}{w:World}{jb s pb:Nat}{sl:Value}{J:Jd}(h:JrA B w jb s pb sl J)(e:Ev)(i o:Nat)(p:Pt)(hi:i<J.ps.length)(hp:J.ps[i]=p)(D:o=i*10)(T:e.k=4/\(p.k=2\/p.k≠2/\p.k=3)/\p.gave=false/\e.at'=p.a/\iB e.at' J.l=true):
  Calls Tryz.prog 110 #[some jb,.pointer (some ⟨pb,o,.none⟩),e.val] w fun r w'=>r= .returned (.int .i64 0)/\zC B w w' jb s pb sl {J with l:=DB J.l e.at',ps:=J.ps.set i {p with gave:=true}}:=by
 obtain⟨R,T,hg,b1,b3⟩:=T;replace R:=hd' R;have bf:(e.at' !=p.a)=false:=by simpa using b1
 clear b1;unfold Ev.val Ev.cells;have L:=(Below.refl w.heap.size w).alloc lr (.cells #[e.k,e.c,e.ok,e.oa,e.on,e.at',e.n,e.er] 62);have t1:=jA w (.cells #[e.k,e.c,e.ok,e.oa,e.on,e.at',e.n,e.er] 62);have Z:=h.below L;obtain⟨bg,c0,c1,c2,c3,c4,c5,c6,c7,c8,c9,b9⟩:=D ▸ (Z.row.pt i hi hp);replace D:=hd' D;replace hp:=hd' hp;replace hi:=hd' hi;have bh:=h.lt;have bi:=h.row.lt;have bj:=h.model.lt;have bn:∀ k,sl.ownBlock=some k->k<w.heap.size:=fun k T=>(h.model.owns.lt k T).2;have C:Hid (∀ X,RM B X s sl J.W J.l->jK 29 #[some s,e.at'] X fun r w'=>r= .returned (.bool true)/\∃ j,RM B w' s j J.W (DB J.l e.at')/\Only (foot s sl) X w'/\∀ k,foot s j k->foot s sl k\/X.heap.size<=k):=hd' fun X hX=>by have:=yn7 hX e.at';rwa [b3]at this
 have z:Hid (∀ X m j,jW w X->JrA B X jb s pb sl J->RM B m s j J.W (DB J.l e.at')->Only (foot s sl) X m->(∀ k,foot s j k->foot s sl k\/X.heap.size<=k)->zC B w m jb s pb sl {J with l:=DB J.l e.at'}):=hd' fun X m j hw hj hm D hf=>zC.lower hw ⟨⟨j,hj.setM hm D hf,fun k e=>by
  rcases hf k (.inr e) with(h1|h1)|h1
  ·exact absurd (h1 ▸ e) hm.apart
  ·exact .inl h1
  ·exact .inr h1⟩,D.mono' fun k e=>.inr (.inr e)⟩
 clear b3;rcases T with T|⟨bk,bm⟩;all_goals
  go_in;go_upto_region 1 with fail;generalize w.alloc (.cells #[e.k,e.c,e.ok,e.oa,e.on,e.at',e.n,e.er] 62)=W at *;obtain⟨E,hE,Y⟩:=hidv w.heap.size;rw[<-Y]at t1 ⊢;have e0:W.cell? ⟨E,0,.none⟩=some (.int .i64 e.k):=kA t1 0;rw[R]at e0;have e5:W.cell? ⟨E,5,.none⟩=some (.int .i64 e.at'):=kA t1 5;have b5:=kA t1;have h0:=Z.h0;have lj:jb<W.heap.size:=Z.lt;have lE:E<W.heap.size:=(jE t1);clear Y;go_upto_region 14 with fail;go_quiet (fail);have O:Below w.heap.size w (W.drewN nq):=below_drewN L nq;have q:JrA B (W.drewN nq) jb s pb sl J:=Z.below (below_drewN br nq);have p4:(W.drewN nq).cell? ⟨pb,o+4,.none⟩=some (.bool p.gave):=c4;have U:(W.drewN nq).cell? ⟨E,5,.none⟩=some (.int .i64 e.at'):=e5;have b6:=q.h0;clear c0 c1 c2 c3 c4 c5 c6 c7 c8 c9 b9 e0 e5 b5 h0 t1 L Z lj lE;generalize W.drewN nq=V at *;have lj:jb<V.heap.size:=q.lt;have lE:E<V.heap.size:=bG U;go_upto_region 16 with fail;refine wret 6 ?_;repeat (go_big_quiet_step (fail))
  refine wqn fun X b8=>?_;have M:=b8;have bb:=O.trans (M.mono O.size);have I:=q.below M;clear q O U b6 p4 M;go_upto_region 18 with(first|(go_at_call 29;(with_reducible refine(C X I.model).mono ?_);rintro r m ⟨rfl,j,hm,b4,b2⟩));have b7:=z X m j bb I hm b4 b2;obtain⟨⟨bc,G,ba⟩,b0⟩:=b7;have y:RrP m pb J.ps:=G.row;have bp:pb<m.heap.size:=y.lt;have S:RpAt m pb o p:=D.out ▸ (y.pt i hi hp.out);have p4:=S.c4;have pf:=S.fr;have F:RrP m pb (J.ps.set i p):=by rw[<-hp,List.set_getElem_self];exact y
  have z0:=RrP.put (q':= {p with gave:=true}) hi 4 (.bool true) (Only.refl (atR pb) m) F rfl (by omega);rw[<-D]at z0;have hL:zC B w (m.setCell ⟨pb,o+4,.none⟩ (.bool true)) jb s pb sl {J with l:=DB J.l e.at',ps:=J.ps.set i {p with gave:=true}}:=⟨⟨bc,G.setP (by rw[List.length_set]) z0.2 z0.1,ba⟩,b0.trans z0.1 fun k _ e=>.inr (.inl e)⟩;clear y G hm b4 b2 b0 z C I S z0 F;go_wp2;go_ret;exact⟨rfl,hL⟩
theorem yn3{B:Nat}{w:World}{jb s pb:Nat}{sl:Value}{J:Jd}(h:JrA B w jb s pb sl J)(e:Ev)(i o:Nat)(p:Pt)(hi:i<J.ps.length)(I:J.ps[i]=p)(G:o=i*10)(hk:e.k=5/\DC p e=true):
  Calls Tryz.prog 110 #[some jb,.pointer (some ⟨pb,o,.none⟩),e.val] w fun r w'=>r= .returned (.int .i64 0)/\zC B w w' jb s pb sl {J with l:=J.l,ps:=J.ps.set i {p with asks:=false}}:=by
 obtain⟨m,O⟩:=hk;replace m:=hd' m;unfold Ev.val Ev.cells;have j:=(Below.refl w.heap.size w).alloc lr (.cells #[e.k,e.c,e.ok,e.oa,e.on,e.at',e.n,e.er] 62);have t1:=jA w (.cells #[e.k,e.c,e.ok,e.oa,e.on,e.at',e.n,e.er] 62);have F:=h.below j;obtain⟨b0,c0,c1,c2,c3,c4,c5,c6,c7,c8,c9,Z⟩:=G ▸ (F.row.pt i hi I);replace G:=hd' G;replace I:=hd' I;replace hi:=hd' hi;have b1:=h.lt;have b2:=h.row.lt;have b3:=h.model.lt;have b4:∀ k,sl.ownBlock=some k->k<w.heap.size:=fun k hk=>(h.model.owns.lt k hk).2;have R:Hid (∀ X,RpAt X pb o p->jK 138 #[.pointer (some ⟨pb,o,.none⟩),.agg #[.int .i64 5,e.c,e.ok,e.oa,e.on,e.at',e.n,e.er]] X fun r w'=>r= .returned (.bool true)/\Below X.heap.size X w'):=hd' fun X hX=>by have:=ylw p e pb o X hX;unfold Ev.val Ev.cells at this;rwa [O,m.out]at this
 clear O;go_in;go_upto_region 1 with fail;generalize w.alloc (.cells #[e.k,e.c,e.ok,e.oa,e.on,e.at',e.n,e.er] 62)=W at *;obtain⟨E,hE,M⟩:=hidv w.heap.size;rw[<-M]at t1 ⊢;have e0:W.cell? ⟨E,0,.none⟩=some (.int .i64 e.k):=kA t1 0;rw[m]at e0;have V:=kA t1;have h0:=F.h0;have lj:jb<W.heap.size:=F.lt;have lE:E<W.heap.size:=(jE t1);clear M;have Y:=kA t1;have y:RpAt W pb o p:=G.out ▸ (F.row.pt i hi I.out);go_upto_region 5 with(first|(go_at_call 138;refine(R _ y).mono ?_;rintro r L ⟨rfl,T⟩));have C:=F.below T;have S:=j.trans (T.mono j.size);have q:RrP L pb J.ps:=C.row;have b5:pb<L.heap.size:=q.lt;have D:RpAt L pb o p:=G.out ▸ (q.pt i hi I.out);have p2:=D.c2;have pf:=D.fr;have z:RrP L pb (J.ps.set i p):=by rw[<-I,List.set_getElem_self];exact q
 have U:=RrP.put (q':= {p with asks:=false}) hi 2 (.bool false) (Only.refl (atR pb) L) z rfl (by omega);rw[<-G]at U;have hL:zC B w (L.setCell ⟨pb,o+2,.none⟩ (.bool false)) jb s pb sl {J with l:=J.l,ps:=J.ps.set i {p with asks:=false}}:=⟨⟨sl,C.setP (by rw[List.length_set]) U.2 U.1,fun k e=>.inl e⟩,(Only.of_below S).trans U.1 fun k _ e=>.inr (.inl e)⟩;clear q C D U z y c0 c1 c2 c3 c4 c5 c6 c7 c8 c9 Z e0 Y V h0 t1 j F;go_wp2;go_ret;exact⟨rfl,hL⟩
theorem ymz{B:Nat}{w:World}{jb s pb:Nat}{sl:Value}{J:Jd}(h:JrA B w jb s pb sl J)(e:Ev){i:Nat}{p v:Pt}{l':List Bk}(hi:i<J.ps.length)(b8:J.ps.length<=100)(hc:e.c=(i:Int))(hp:J.ps[i]=p)(Y:Fine J.W J.l p e l' v):
  Calls Tryz.prog 73 #[some jb,e.val] w fun r w'=>r= .returned (.int .i64 0)/\zC B w w' jb s pb sl {J with l:=l',ps:=J.ps.set i v}:=by
 obtain⟨ek,ec,C,G,en,T,z,er⟩:=e;have S:=Y.kinds;dsimp only at hc S;subst hc;unfold Ev.val Ev.cells;dsimp only;have R:=(Below.refl w.heap.size w).alloc lr (.cells #[ek,.int .i64 (i:Int),C,G,en,T,z,er] 62);have t1:=jA w (.cells #[ek,.int .i64 (i:Int),C,G,en,T,z,er] 62);have q:=h.below R;obtain⟨n,hn,b5⟩:=hidv J.ps.length;have bk:(i:Int)<(n:Int):=by omega
 have bi:(0:Int)<=(i:Int):=by omega
 have b7:¬ (i:Int)>=(n:Int):=by omega
 have bj:¬ (i:Int)<0:=by omega
 have b6:n<=100:=by omega
 clear b5;obtain⟨E,hE,b0⟩:=hidv w.heap.size;replace hi:=hd' hi;replace hp:=hd' hp;go_in;go_upto_region 1 with fail;generalize w.alloc (.cells #[ek,.int .i64 (i:Int),C,G,en,T,z,er] 62)=W at *;rw[<-b0]at t1 ⊢;clear b0;have hK:Hid (∀ X,jW W X->JrA B X jb s pb sl J/\X.heap[E]?=some (.cells #[ek,.int .i64 (i:Int),C,G,en,T,z,er] 62)/\X.cell? ⟨jb,1,.none⟩=some (.slice (some ⟨pb,0,.none⟩) n n)):=hd' fun X hX=>⟨q.below hX,(hX.block _ (jE t1)).trans t1,by rw[hn];exact(q.below hX).h1⟩;clear q t1;obtain⟨q,t1,h1⟩:=hK W br;have b3:=kA t1;go_quiet (fail);have Z:Below W.heap.size W (W.drewN nq):=below_drewN br nq;generalize W.drewN nq=V at *;clear b3 h1 t1 q;obtain⟨q,t1,h1⟩:=hK V Z;have b4:=kA t1;go_upto_region 3 with fail;go_quiet (fail);have I:Below W.heap.size W (V.drewN nq):=below_drewN Z nq;generalize V.drewN nq=U at *;clear b4 h1 t1 q;obtain⟨q,t1,_⟩:=hK U I;have b1:Below w.heap.size w U:=R.trans (I.mono R.size);clear Z I hK R;have j:=q.row.pt i hi hp.out;have bb:=kA t1;go_upto_region 6 with fail;have m:Hid (∀ W3 v,RrP W3 pb (J.ps.set i v)->Only (atR pb) U W3->zC B w W3 jb s pb sl {J with l:=J.l,ps:=J.ps.set i v}):=hd' fun W3 v hr b2=>⟨⟨sl,q.setP (by rw[List.length_set]) hr b2,fun k e=>.inl e⟩,(Only.of_below b1).trans b2 fun k _ e=>.inr (.inl e)⟩;have o:RrP U pb (J.ps.set i p):=by rw[<-hp,List.set_getElem_self];exact q.row
 have lp:pb<U.heap.size:=q.row.lt;have y:Hid (∀ w' JR,zC B U w' jb s pb sl JR->zC B w w' jb s pb sl JR):=hd' fun w' JR L=>zC.lower b1 L;rcases S with⟨rfl,hw,rfl,rfl⟩|⟨rfl,L,ht,rfl,rfl⟩|⟨rfl,L,F,bm,bn,rfl,rfl⟩|⟨rfl,L,F,S⟩|⟨rfl,L,F,S⟩|⟨rfl,L,F,S,rfl,rfl⟩
 ·have c0:=j.c0;have c1:=j.c1;have pf:=j.fr;rw[hw]at c0;have M:=RrP.put (q':= {p with was:=true}) hi 0 (.bool true) (Only.refl (atR pb) U) o rfl (by omega);have O:=RrP.put (q':= {p with was:=true,lives:=true}) hi 1 (.bool true) M.1 M.2 rfl (by omega);have D:=hd' (m _ _ O.2 O.1);rw[Nat.add_zero]at D;clear M O o m y q j t1 Y;go_wp2;go_returns;exact⟨rfl,D.out⟩
 ·have c1:=j.c1;have c2:=j.c2;have c3:=j.c3;have pf:=j.fr;rw[L]at c1;have M:=RrP.put (q':= {p with lives:=false}) hi 1 (.bool false) (Only.refl (atR pb) U) o rfl (by omega);have O:=RrP.put (q':= {p with lives:=false,asks:=false}) hi 2 (.bool false) M.1 M.2 rfl (by omega);have D:=hd' (m _ _ O.2 O.1);clear M O o m y q j t1 Y;rcases jB p.asks with F|F
  ·rw[ht F]at c3;rw[F]at c2;clear ht;go_wp2;go_returns;exact⟨rfl,D.out⟩
  rw[F]at c2;clear ht;go_wp2;go_returns;exact⟨rfl,D.out⟩
 ·obtain⟨_,c0,c1,c2,c3,c4,c5,c6,c7,c8,c9,pf⟩:=id j;rw[L]at c1;rw[F]at c2;have bc:=kA t1;have b9:¬ C<1:=by omega
  have ba:¬ 4<C:=by omega
  have M:=RrP.put (q':= {p with was:=true}) hi 0 (.bool true) (Only.refl (atR pb) U) o rfl (by omega);have O:=RrP.put (q':=⟨true,true,p.asks,p.k,p.a,p.n,p.took,p.gave,p.at',p.ab⟩) hi 1 (.bool true) M.1 M.2 rfl (by omega);have z2:=RrP.put (q':=⟨true,true,true,p.k,p.a,p.n,p.took,p.gave,p.at',p.ab⟩) hi 2 (.bool true) O.1 O.2 rfl (by omega);have z3:=RrP.put (q':=⟨true,true,true,p.k,p.a,p.n,false,p.gave,p.at',p.ab⟩) hi 3 (.bool false) z2.1 z2.2 rfl (by omega);have z4:=RrP.put (q':=⟨true,true,true,p.k,p.a,p.n,false,false,p.at',p.ab⟩) hi 4 (.bool false) z3.1 z3.2 rfl (by omega);have z5:=RrP.put (q':=⟨true,true,true,p.k,p.a,p.n,false,false,p.at',false⟩) hi 5 (.bool false) z4.1 z4.2 rfl (by omega);have z6:=RrP.put (q':=⟨true,true,true,C,p.a,p.n,false,false,p.at',false⟩) hi 6 (.int .i64 C) z5.1 z5.2 rfl (by omega);have z7:=RrP.put (q':=⟨true,true,true,C,G,p.n,false,false,p.at',false⟩) hi 7 (.int .i64 G) z6.1 z6.2 rfl (by omega);have z8:=RrP.put (q':=⟨true,true,true,C,G,en,false,false,p.at',false⟩) hi 8 (.int .i64 en) z7.1 z7.2 rfl (by omega);have z9:=RrP.put (q':=⟨true,true,true,C,G,en,false,false,0,false⟩) hi 9 (.int .i64 0) z8.1 z8.2 rfl (by omega);have D:=hd' (m _ _ z9.2 z9.1);rw[Nat.add_zero]at D;clear M O z2 z3 z4 z5 z6 z7 z8 z9 o m y q j t1 Y;go_wp2;go_returns;exact⟨rfl,D.out⟩
 ·have c1:=j.c1;have c2:=j.c2;rw[L]at c1;rw[F]at c2;obtain⟨k1,k2,k3,k4,k5,rfl,rfl⟩:=S;have hd:=ym8 q ⟨3,(i:Int),C,G,en,T,z,er⟩ i (i*10) p hi hp rfl ⟨rfl,k1,k2,k3,k4,k5⟩;unfold Ev.val Ev.cells at hd;dsimp only at hd;replace hd:=hd' hd;clear k1 k2 k3 k4 k5;have bf:=kA t1;clear o m q j t1 Y;go_wp2_with (first|(go_at_call 110;(with_reducible refine hd.out.mono ?_);rintro r w2 ⟨rfl,D⟩));go_returns;exact⟨rfl,y _ _ D⟩
 ·have c1:=j.c1;have c2:=j.c2;rw[L]at c1;rw[F]at c2;obtain⟨k1,k2,k3,k4,rfl,rfl⟩:=S;have hd:=ynb q ⟨4,(i:Int),C,G,en,T,z,er⟩ i (i*10) p hi hp rfl ⟨rfl,k1,k2,k3,k4⟩;unfold Ev.val Ev.cells at hd;dsimp only at hd;replace hd:=hd' hd;clear k1 k2 k3 k4;have bg:=kA t1;clear o m q j t1 Y;go_wp2_with (first|(go_at_call 110;(with_reducible refine hd.out.mono ?_);rintro r w2 ⟨rfl,D⟩));go_returns;exact⟨rfl,y _ _ D⟩
 have c1:=j.c1;have c2:=j.c2;rw[L]at c1;rw[F]at c2;have hd:=yn3 q ⟨5,(i:Int),C,G,en,T,z,er⟩ i (i*10) p hi hp rfl ⟨rfl,S⟩;unfold Ev.val Ev.cells at hd;dsimp only at hd;replace hd:=hd' hd;have bh:=kA t1;clear o m q j t1 Y;go_wp2_with (first|(go_at_call 110;(with_reducible refine hd.out.mono ?_);rintro r w2 ⟨rfl,D⟩));go_returns;exact⟨rfl,y _ _ D⟩
def mapR (f:Pt->Pt) (i:Nat) (ps:List Pt):List Pt:=(ps.take i).map f ++ ps.drop i
theorem NN(f:Pt->Pt)(i:Nat)(ps:List Pt):(mapR f i ps).length=ps.length:=by
 unfold mapR;rw[List.length_append,List.length_map,List.length_take,List.length_drop];omega
theorem ym6(f:Pt->Pt)(ps:List Pt):mapR f 0 ps=ps:=by simp[mapR]
theorem yph(f:Pt->Pt)(ps:List Pt):mapR f ps.length ps=ps.map f:=by simp[mapR]
theorem yos(f:Pt->Pt)(i:Nat)(ps:List Pt)(h:i<ps.length):(mapR f i ps)[i]'(by rw[NN];exact h)=ps[i]:=by
 unfold mapR;have j:((ps.take i).map f).length=i:=by rw[List.length_map,List.length_take];omega
 rw[List.getElem_append_right (by omega),List.getElem_drop];congr 1;omega
theorem yn1(f:Pt->Pt)(i:Nat)(ps:List Pt)(h:i<ps.length):mapR f (i+1) ps=(mapR f i ps).set i (f ps[i]):=by
 unfold mapR;have j:((ps.take i).map f).length=i:=by rw[List.length_map,List.length_take];omega
 rw[List.set_append_right _ _ (by omega),j,Nat.sub_self];have h1:ps.drop i=ps[i]::ps.drop (i+1):=(List.getElem_cons_drop h).symm;rw[h1,List.set_cons_zero];have h2:ps.take (i+1)=ps.take i++[ps[i]]:=List.take_succ_eq_append_getElem h;rw[h2,List.map_append,List.append_assoc];rfl
def Tw2 (w:World) (N:Nat) (a b:Int):Prop:=w.heap[N]?=some (.cells #[a,b] 64 (0,0))
section

variable {w w':World} {N:Nat} {a b:Int}

theorem Tw2.below(h:Tw2 w N a b)(hb:Below w.heap.size w w'):Tw2 w' N a b:=(hb.block N (jE h)).trans h
end

theorem ynz(l:List Bk)(a:Int):∃ x y:Int,blkV (atB l a)= .tuple #[.agg #[x,y],.bool (iB a l)]:=by
 unfold atB;rcases jB (iB a l) with hb|hb
 ·rw[jP hb,hb];obtain⟨h1,h2⟩:=(LJ a l).1 hb;rw[List.getElem?_eq_getElem h1];exact⟨_,_,rfl⟩
 rw[jN (by rw[hb];decide),hb];exact⟨0,0,rfl⟩
theorem IR{B:Nat}{w:World}{jb s pb:Nat}{sl:Value}{J:Jd}(h:JrA B w jb s pb sl J)(e:Ev)(hb:CG J e=true)(hm:0<=J.m/\J.m<=1000000000)(hn:J.ps.length<=100):
  Calls Tryz.prog 33 #[some jb,e.val] w fun r w'=>r= .returned (.bool true)/\zC B w w' jb s pb sl (CA J e):=by
 obtain⟨U,bj⟩:=(HI J e).1 hb;rw[RK hb];replace U:=hd' U;obtain⟨ix,p0,v0,q,bm,bk,bv,hF,bs,b2⟩:=yqk bj;rw[bs,b2];clear bs b2 bj hb;have bh:=(Below.refl w.heap.size w).alloc lr (.cells #[e.k,e.c,e.ok,e.oa,e.on,e.at',e.n,e.er] 62);have t1:=jA w (.cells #[e.k,e.c,e.ok,e.oa,e.on,e.at',e.n,e.er] 62);have hJ:=h.below bh;obtain⟨E,hE,bf⟩:=hidv w.heap.size;have S:=ymz hJ e bm hn bk bv hF;have ca:(J.ps.set ix v0).length=J.ps.length:=List.length_set;generalize J.ps.set ix v0=j at *;clear hF bk bv bm;unfold Ev.val Ev.cells at S ⊢;have h4:=hJ.h4;rw[U]at h4;replace S:=hd' S;go_in;go_upto_region 1 with fail;generalize w.alloc (.cells #[e.k,e.c,e.ok,e.oa,e.on,e.at',e.n,e.er] 62)=W at *;rw[<-bf]at t1 ⊢;have bw:=kA t1;clear bf;go_upto_region 5 with(first|(go_at_call 73;(with_reducible refine S.out.mono ?_);rintro r w2 ⟨rfl,hL⟩));obtain⟨⟨y,bg,bq⟩,c4⟩:=hL;clear hJ t1 bw h4 S;obtain⟨V,rfl⟩:∃ V:World,V=w2:=⟨_,rfl⟩;have b3:JrA B V jb s pb y {J with l:=q,ps:=j}:=bg;have g1:V.cell? ⟨jb,1,.none⟩=some (rvV pb j.length):=b3.h1;obtain⟨n,b8,b1⟩:=hidv j.length;have c9:n<=100:=by omega
 rw[<-b1]at g1;unfold rvV at g1;clear b1 ca bg;have b0:Hid (∀ wr,JrA B wr jb s pb y {J with l:=q,ps:=j.map (abP q),m:=J.m+1}->Only (cF jb s pb y) V wr->zC B w wr jb s pb sl {J with l:=q,ps:=j.map (abP q),m:=J.m+1}):=hd' fun wr C ho=>by
  refine zC.lower bh ⟨⟨y,C,bq⟩,c4.trans ho fun k hk e=>?_⟩;rcases e with e|e|e|e
  ·exact .inl e
  ·exact .inr (.inl e)
  ·exact .inr (.inr (.inl e))
  rcases bq k e with h1|h1
  ·exact .inr (.inr (.inr h1))
  omega
 go_wp2_with fail;go_loopw [6] (fun vi wr=>∃ i:Nat,i<=n/\vi= .int .i64 i/\JrA B wr jb s pb y {J with l:=q,ps:=mapR (abP q) i j}/\Only (cF jb s pb y) V wr) (fun vi _=>n-(intOf vi).toNat);case atStart=>exact⟨0,Nat.zero_le _,rfl,by rw[ym6];exact b3,Only.refl _ _⟩
 case round=>
  clear g1 b3;obtain⟨i,hi,rfl,C,ho⟩:=hrel;obtain⟨Y,rfl⟩:∃ V:World,V=wr:=⟨_,rfl⟩;have y1:Y.cell? ⟨jb,1,.none⟩=some (.slice (some ⟨pb,0,.none⟩) n n):=by have:=C.h1;unfold rvV at this;rw[show ({J with l:=q,ps:=mapR (abP q) i j}:Jd).ps.length=j.length from NN _ _ _,<- b8]at this;exact this
  by_cases c8:i<n
  ·have cb:(i:Int)<(n:Int):=by omega
   have cd:(0:Int)<=(i:Int):=by omega
   have cg:IntKind.i64.wrap ((i:Int)+1)=(i:Int)+1:=IntWalk.i64_in _ ⟨by omega,by omega⟩;have b6:i<j.length:=by have:=b8.out;omega
   have O:i<(mapR (abP q) i j).length:=by rw[NN];exact b6
   have L:RrP Y pb (mapR (abP q) i j):=C.row;obtain⟨p,hp⟩:∃ p,j[i]=p:=⟨_,rfl⟩;have D:=yos (abP q) i j b6;rw[hp]at D;have ba:=L.pt i O D;have y0:=C.h0;have R:=yn1 (abP q) i j b6;rw[hp]at R;have M:=fun X (hX:Below Y.heap.size Y X)=>yqe (C.below hX).model p.a;obtain⟨bx,bn,b4⟩:=ynz q p.a;dsimp only at M b4;rw[b4]at M;replace M:=hd' M;have y4:=ba.c7;have lj:jb<Y.heap.size:=C.lt;have lp:pb<Y.heap.size:=ba.lt;replace D:=hd' D;replace R:=hd' R;replace hp:=hd' hp;clear b4;go_upto_region 8 with fail;go_cut [7,8] (fun vx vo wx=>(∃ N:Nat,vx= .pointer (some ⟨N,0,.none⟩))/\vo= .bool (iB p.a q)/\Below Y.heap.size Y wx);case first=>
    have hK:Hid (∀ X,jW Y X->X.cell? ⟨jb,0,.none⟩=some (.pointer (some ⟨s,0,.none⟩))/\X.cell? ⟨jb,1,.none⟩=some (.slice (some ⟨pb,0,.none⟩) n n)/\X.cell? ⟨pb,i*10+7,.none⟩=some (.int .i64 p.a)):=hd' fun X hb=>⟨iA hb _ _ _ y0,iA hb _ _ _ y1,iA hb _ _ _ y4⟩
    go_region_held3 (fun X=>X.cell? ⟨jb,0,.none⟩=some (.pointer (some ⟨s,0,.none⟩))/\X.cell? ⟨jb,1,.none⟩=some (.slice (some ⟨pb,0,.none⟩) n n)/\X.cell? ⟨pb,i*10+7,.none⟩=some (.int .i64 p.a))
     (first|exact hK _ (by go_grown))
     (first|(go_at_call 27;(with_reducible refine(M _ (by go_grown)).mono ?_);rintro r w4 ⟨rfl,bi⟩;have bz:=xA (w:=Y) (by go_grown) bi;have cc:=bz.size;try (have hz:=Tw2.below (N:=Y.heap.size) (a:=0) (b:=0) (jA Y.drew (.cells #[.int .i64 0,.int .i64 0] 64)) bi;have z0:=kA hz 0;have z1:=kA hz 1;have zF:=GA hz)))
    all_goals (go_wp2_with fail;go_meet)
    all_goals exact⟨⟨_,rfl⟩,rfl,by go_grown⟩
   case rest=>
    obtain⟨⟨N,rfl⟩,rfl,T⟩:=hcut;obtain⟨Z,rfl⟩:∃ V:World,V=wc:=⟨_,rfl⟩;have b7:=C.below T;have b9:Only (cF jb s pb y) V Z:=ho.trans (Only.of_below (F:=fun _=>False) T) fun _ _ e=>e.elim;have bb:RrP Z pb (mapR (abP q) i j):=L.of_block (T.block _ L.lt);have I:RpAt Z pb (i*10) p:=bb.pt i O D.out;have y1:=iA T _ _ _ y1;have y2:=I.c2;have y5:=I.c5;have yf:=I.fr;have o:abP q p=p->∃ G:Nat,G<=n/\Value.int .i64 ((i:Int)+1)= .int .i64 G/\JrA B Z jb s pb y {J with l:=q,ps:=mapR (abP q) G j}/\Only (cF jb s pb y) V Z:=fun e=>by
     refine⟨i+1,by omega,by go_num,?_,b9⟩;have:mapR (abP q) (i+1) j=mapR (abP q) i j:=by rw[R,e,<- D,List.set_getElem_self]
     rw[this];exact b7
    have z:abP q p= {p with ab:=true}->∃ G:Nat,G<=n/\Value.int .i64 ((i:Int)+1)= .int .i64 G/\JrA B (Z.setCell ⟨pb,i*10+5,.none⟩ (.bool true)) jb s pb y {J with l:=q,ps:=mapR (abP q) G j}/\Only (cF jb s pb y) V (Z.setCell ⟨pb,i*10+5,.none⟩ (.bool true)):=fun e=>by
     have bc:RrP Z pb ((mapR (abP q) i j).set i p):=by rw[<-D,List.set_getElem_self];exact bb
     have z0:=RrP.put (q':= {p with ab:=true}) O 5 (.bool true) (Only.refl (atR pb) Z) bc rfl (by omega);refine⟨i+1,by omega,by go_num,?_,b9.trans z0.1 fun k _ e=>.inr (.inl e)⟩;rw[R,e];exact b7.setP (qs:=(mapR (abP q) i j).set i {p with ab:=true}) (by rw[List.length_set]) z0.2 z0.1
    replace o:=hd' o;replace z:=hd' z;clear b7 b9 bb I L ba C ho M y4 y0;rcases jB (iB p.a q) with b5|b5
    ·have hh:=hd' (o (by unfold abP;rw[jN (by rw[b5];simp)]));clear o z;go_wp2;all_goals exact⟨hh.out,by simp[intOf];omega⟩
    rcases jB p.asks with has|has
    ·have hh:=hd' (z (by unfold abP;rw[jP ⟨b5,has⟩]));clear o z;go_wp2;exact⟨hh.out,by simp[intOf];omega⟩
    have hh:=hd' (o (by unfold abP;rw[jN (by rw[has];simp)]));clear o z;go_wp2;exact⟨hh.out,by simp[intOf];omega⟩
  have c6:i=n:=by omega
  subst c6;rw[b8,yph]at C;obtain⟨bp,bu⟩:=C.setN (J.m+1);have hL:=hd' (b0 _ bp (ho.trans bu fun k _ e=>.inl e));have y2:=C.h2;have y4:=C.h4;have yf:=C.fr;dsimp only at y2 y4;rw[U]at y4;have wm:=wrp (J.m+1);have cf:¬ (i:Int)<(i:Int):=by omega
  have lj:jb<Y.heap.size:=C.lt;clear C ho b0 bp bu c8;go_wp2;go_ret;exact⟨rfl,hL.out⟩
end

section

open Go.RowKit

attribute [local go_sem ↓] Go.wp_at_zero Go.wp_at_succ

theorem Mdl.base{T E:TypeId}{B f:Nat}{w:World}{s:Nat}{W:Int}(h:Mdl T E B w s (.slice none 0 0) W [])(i:f<=B):Mdl T E f w s (.slice none 0 0) W []:=
 ⟨Nat.le_trans i h.lies,h.head,⟨rfl,.inl ⟨rfl,rfl⟩⟩,h.apart,h.ok,h.small⟩
theorem yqz:(Tryz.prog.info? 135).map (fun i=>(i.zero,i.size,i.bytes))=some (some (.agg #[.bool false,.bool false,.bool false,.bool false,.bool false,.bool false,.int .i64 0,.int .i64 0,.int .i64 0,.int .i64 0]),10,40):=by kernel_rfl
theorem ypf(n:Nat):madeCells #[.bool false,.bool false,.bool false,.bool false,.bool false,.bool false,.int .i64 0,.int .i64 0,.int .i64 0,.int .i64 0] (n*10)=(rpsC (List.replicate n Pt.zero)).toArray:=by
 apply Array.toList_inj.1;apply List.ext_getElem?;intro x;rcases Nat.lt_or_ge x (n*10) with f|f
 ·obtain⟨i,j,l,rfl⟩:∃ i j:Nat,j<10/\x=i*10+j:=⟨x/10,x%10,by omega,by omega⟩;have h1:=XR (List.replicate n Pt.zero) i j (by rw[List.length_replicate];omega) l;rw[List.getElem_replicate]at h1;show _=(rpsC (List.replicate n Pt.zero))[i*10+j]?;rw[h1];have h2:(i*10+j)%10=j:=by omega
  simp only[madeCells,Array.toList_map,List.getElem?_map,Array.toList_range,List.getElem?_range f,Option.map_some];show some (_[(i*10+j)%10]!)=_;rw[h2];have:j=0\/j=1\/j=2\/j=3\/j=4\/j=5\/j=6\/j=7\/j=8\/j=9:=by omega
  rcases this with rfl|rfl|rfl|rfl|rfl|rfl|rfl|rfl|rfl|rfl<;>rfl
 have h1:(rpsC (List.replicate n Pt.zero)).length=n*10:=by rw[VR,List.length_replicate]
 rw[List.getElem?_eq_none (by rw[Array.length_toList,size_madeCells];exact f),List.getElem?_eq_none (by simp only[];omega)]
theorem yoa(n:Nat)(m:n<=12):∀ u:World,(Instr.makeSlice 80 (.int .i64 (n:Int)) (.int .i64 (n:Int))).run Tryz.prog u= .ok (.slice (some ⟨u.heap.size,0,.none⟩) n n) (u.alloc (.cells (rpsC (List.replicate n Pt.zero)).toArray 135)):=fun u=>by
 obtain⟨l,hi,f,i,j⟩:=info_parts yqz
 have h:=run_make (P:=Tryz.prog) u 80 135 l _ Tryz.underlying80 hi f .i64 .i64 (n:Int) (n:Int) (by omega) (Int.le_refl _) (by rw[j];omega) (by omega)
 rw[Int.toNat_natCast]at h
 rw[<-ypf n]
 simpa[i,Value.cells] using h
def CS (w w':World) (r:Ending) (J:Jd):Prop:=∃ jb s pb,r= .returned (.pointer (some ⟨jb,0,.none⟩))/\Below w.heap.size w w'/\JrA w.heap.size w' jb s pb (.slice none 0 0) J
theorem SR{p c m:Int}(hm:mayB p c m=true)(w:World):
  Calls Tryz.prog 32 #[.agg #[p,c,m]] w fun r w'=>CS w w' r (newJ p c m):=by
 have G:=hd' (fun n X=>pR n X);have l:=fun X=>UG p c m X;have b1:=(Below.refl w.heap.size w).alloc lr (.cells #[p,c,m] 23);have t1:=jA w (.cells #[p,c,m] 23);obtain⟨JR,L⟩:∃ JR,Hid (JR=newJ p c m):=⟨_,hd' rfl⟩;rw[<-L];have hJ:JR=⟨p*64, [],List.replicate c.toNat Pt.zero,0, -1,0⟩:=by rw[L];unfold newJ;rw[jP hm]
 have b8:(1<=p/\p<=64)/\(1<=c/\c<=12):=by have:=LA.1 hm;omega
 obtain⟨hp,hc⟩:=b8;obtain⟨H,hH,Z⟩:=hidv w.heap.size;go_in;go_upto_region 1 with fail;generalize w.alloc (.cells #[p,c,m] 23)=W at *;rw[<-Z]at t1 ⊢;clear Z;have lH:H<W.heap.size:=(jE t1);go_upto_region 2 with(go_at_call 22;refine(G _ _).mono ?_;rintro r w1 ⟨rfl,z,O⟩);have bj:=z.size;have U:=z.alloc z.size (.cells #[some W.heap.size,.slice none 0 0,.int .i64 0,.int .i64 (-1),.int .i64 0] 84);have b7:RM W.heap.size (w1.alloc (.cells #[some W.heap.size,.slice none 0 0,.int .i64 0,.int .i64 (-1),.int .i64 0] 84)) W.heap.size (.slice none 0 0) (capW 0) []:=O.below (br.alloc lr _);have tj:=jA w1 (.cells #[some W.heap.size,.slice none 0 0,.int .i64 0,.int .i64 (-1),.int .i64 0] 84);obtain⟨jb,bg,F⟩:=hidv w1.heap.size;have bb:W.heap.size<w1.heap.size:=O.lt;rw[<-F]at tj bb ⊢;generalize w1.alloc (.cells #[some W.heap.size,.slice none 0 0,.int .i64 0,.int .i64 (-1),.int .i64 0] 84)=V at *;have bn:w.heap.size<=H:=by have:=hH.out;omega
 have bp:w.heap.size<=W.heap.size:=b1.size;clear F O z;have lV:jb<V.heap.size:=(jE tj);have d0:V.cell? ⟨H,0,.none⟩=some (.int .i64 p):=iA U _ _ _ (kA t1 0);have d1:V.cell? ⟨H,1,.none⟩=some (.int .i64 c):=iA U _ _ _ (kA t1 1);have d2:V.cell? ⟨H,2,.none⟩=some (.int .i64 m):=iA U _ _ _ (kA t1 2);have bV:=b1.trans (U.mono b1.size);rw[hm]at l;replace l:=hd' l;obtain⟨cn,b6⟩:∃ cn:Nat,c=(cn:Int):=⟨c.toNat,by omega⟩;subst b6;rw[Int.toNat_natCast]at hJ;have bc:=wrp (p*64);have E:capW (p*64)=p*64:=by unfold capW;rw[jN (by omega)]
 have bh:=yoa cn (by omega);go_wp2_with fail;refine(l _).mono ?_;rintro r w2 ⟨rfl,hw⟩;have i:Below V.heap.size V w2:=hw ▸ br.alloc lr _;clear hw;have b5:=iA i _ _ _ d0;go_wp2_with fail;refine(G _ _).mono ?_;rintro r I ⟨rfl,B,C⟩;obtain⟨s,hs,T⟩:=hidv w2.heap.size;have bk:=i.size;have b9:=B.size;have bs:jb<s:=by omega
 have ba:w.heap.size<=s:=by have:=bV.size;omega
 rw[E,<- T]at C;have bm:=C.lt;rw[<-T]at B b9 ⊢;have j:Below V.heap.size V I:=i.trans (B.mono (by omega));have q:=(j.block _ lV).trans tj;clear T B i b5 b7 E;have j0:=kA q 0;have j1:=kA q 1;have jf:=GA q;have y:=heap_setCell_same I jb 0 _ _ (.pointer (some ⟨s,0,.none⟩)) q;have J:Below w.heap.size w (I.setCell ⟨jb,0,.none⟩ (.pointer (some ⟨s,0,.none⟩))):=Below.setCell (bV.trans (j.mono bV.size)) (by show w.heap.size<=jb;omega) _;have R:RM s (I.setCell ⟨jb,0,.none⟩ (.pointer (some ⟨s,0,.none⟩))) s (.slice none 0 0) (p*64) []:=C.blocks fun k M=>by
  rcases M with rfl|M
  ·exact heap_setCell_other I ⟨jb,0,.none⟩ k _ (by simp;omega)
  simp[Value.ownBlock]at M
 have bf:(I.setCell ⟨jb,0,.none⟩ (.pointer (some ⟨s,0,.none⟩))).cell? ⟨H,1,.none⟩=some (.int .i64 (cn:Int)):=by have h1:=iA j _ _ _ d1;have h2:=heap_setCell_other I ⟨jb,0,.none⟩ H (.pointer (some ⟨s,0,.none⟩)) (by simp;omega);simp only[World.cell?,h2]at h1 ⊢;exact h1
 go_upto_region 4 with fail;clear j q j0 j1 jf C;generalize I.setCell ⟨jb,0,.none⟩ (.pointer (some ⟨s,0,.none⟩))=Y at *;replace y:Y.heap[jb]?=some (.cells #[some s,.slice none 0 0,.int .i64 0,.int .i64 (-1),.int .i64 0] 84 (0,0)):=y;have b4:jb<Y.heap.size:=(jE y);have bq:s<Y.heap.size:=R.lt;have bA:=(Below.refl Y.heap.size Y).alloc lr (.cells (rpsC (List.replicate cn Pt.zero)).toArray 135);have S:RrP (Y.alloc (.cells (rpsC (List.replicate cn Pt.zero)).toArray 135)) Y.heap.size (List.replicate cn Pt.zero):=jA Y _;have D:=(bA.block _ b4).trans y;have b3:=R.below bA;have j1:=kA D 1;have jf:=GA D;obtain⟨pb,bi,o⟩:=hidv Y.heap.size;rw[<-o]at S
 have b0:Hid (CS w ((Y.alloc (.cells (rpsC (List.replicate cn Pt.zero)).toArray 135)).setCell ⟨jb,1,.none⟩ (.slice (some ⟨Y.heap.size,0,.none⟩) cn cn)) (.returned (.pointer (some ⟨jb,0,.none⟩))) JR):=hd' (by
  rw[hJ,<- o]
  refine⟨jb,s,pb,rfl,Below.setCell (J.trans (bA.mono J.size)) (by show w.heap.size<=jb;omega) _,?_⟩
  refine⟨?_,?_,?_,⟨by omega,by omega⟩,by omega,by omega,by omega,by simp[Value.ownBlock],by simp[Value.ownBlock]⟩
  ·rw[heap_setCell_same _ jb 1 _ _ _ D]
   show some (Obj.cells #[some s,.slice (some ⟨pb,0,.none⟩) cn cn,.int .i64 0,.int .i64 (-1),.int .i64 0] _ _)=_
   unfold rvV
   rw[List.length_replicate]
  ·exact(b3.base ba).blocks fun k M=>by
    rcases M with rfl|M
    ·exact heap_setCell_other _ ⟨jb,1,.none⟩ k _ (by simp;omega)
    ·simp[Value.ownBlock]at M
  ·exact S.of_block (heap_setCell_other _ ⟨jb,1,.none⟩ pb _ (by simp;omega)))
 clear hJ L S y D R b3 J bA o bV b1 U tj;go_wp2;go_ret;have hf:=b0.out;rw[World.setCell_alloc_past _ _ _ _ b4]at hf;exact hf
end

section

open Go.RowKit Go.ChangeShapes Go.WideShapes Go.ChangeAt

section

variable {H:Type} {enc:TypeId × Value->H} {w:World}

theorem ygg{es:List Value}(h:Rd enc Tryz.prog w 32 es):∃ a b c:Int,es= [.int .i64 a,.int .i64 b,.int .i64 c]:=by
 obtain⟨m,i⟩:=sP Tryz.underlying32 h;have n:Tryz.prog.cellsOf 32=3:=by kernel_rfl
 have k1:Tryz.prog.cellsOf 3=1:=by kernel_rfl
 rw[n]at m;obtain⟨x,y,z,rfl⟩:=EQ m;have g0:Rd enc Tryz.prog w 3 (([x,y,z].drop 0).take (Tryz.prog.cellsOf 3)):=i 0 _ rfl;have j:Rd enc Tryz.prog w 3 (([x,y,z].drop 1).take (Tryz.prog.cellsOf 3)):=i 1 _ rfl;have l:Rd enc Tryz.prog w 3 (([x,y,z].drop 2).take (Tryz.prog.cellsOf 3)):=i 2 _ rfl;rw[k1]at g0 j l;obtain⟨a,f,_⟩:=KG Tryz.underlying3 g0;obtain⟨b,hb,_⟩:=KG Tryz.underlying3 j;obtain⟨c,hc,_⟩:=KG Tryz.underlying3 l;injection f with f;injection hb with hb;injection hc with hc;subst f hb hc;exact⟨a,b,c,rfl⟩
theorem yf3{es:List Value}(o:es.length=6)(h:Rd enc Tryz.prog w 35 es):∃ c:Ch,c.cells=es/\True:=by
 obtain⟨_,i⟩:=sP Tryz.underlying35 h;match es,o with
 | [x0,x1,x2,x3,x4,x5],_=>
  have k1:Tryz.prog.cellsOf 3=1:=by kernel_rfl
  have p:Tryz.prog.cellsOf 32=3:=by kernel_rfl
  have q:Tryz.prog.cellsOf 33=1:=by kernel_rfl
  have g0:Rd enc Tryz.prog w 3 (([x0,x1,x2,x3,x4,x5].drop 0).take (Tryz.prog.cellsOf 3)):=i 0 _ rfl;have l:Rd enc Tryz.prog w 3 (([x0,x1,x2,x3,x4,x5].drop 1).take (Tryz.prog.cellsOf 3)):=i 1 _ rfl;have m:Rd enc Tryz.prog w 32 (([x0,x1,x2,x3,x4,x5].drop 2).take (Tryz.prog.cellsOf 32)):=i 2 _ rfl;have n:Rd enc Tryz.prog w 33 (([x0,x1,x2,x3,x4,x5].drop 5).take (Tryz.prog.cellsOf 33)):=i 3 _ rfl;rw[k1]at g0 l;rw[p]at m;rw[q]at n;obtain⟨a,j,_⟩:=KG Tryz.underlying3 g0;obtain⟨b,hb,_⟩:=KG Tryz.underlying3 l;obtain⟨c,d,e,hc⟩:=ygg m;obtain⟨f,hd,r⟩:=z7d Tryz.underlying33 n;injection j with j;injection hb with hb;injection hd with hd;injection hc with h2 hc;injection hc with h3 hc;injection hc with h4 hc;subst j hb h2 h3 h4 hd;exact⟨⟨a,b,c,d,e,f⟩,rfl,trivial⟩
theorem zT{v:Value}{r:Reach}{f:Nat}{d:DataW H}{ps:List MemPlace}(i:Value.okWide Tryz.prog w r f 24 v)(h0:DataW.Trod enc Tryz.prog w 0 (fun _=>true) true 24 v d ps):
  ∃ xs:List Ch,RdS w 6 v xs.length (xs.flatMap Ch.cells):=by
 obtain⟨xs,h1,h2⟩:=open_list Ch.cells (fun _=>True) Tryz.underlying24 (sz:=6) (by kernel_rfl) (by omega) (fun _=>rfl) (fun es h1 h2=>yf3 h1 h2) i h0;exact⟨xs,h1⟩
end

end

end Go.Proofs.YtkilokkopbajkaaGreat

/- Lemmas for the claim. -/
import Derived.Test.YtmmbicppdjgbmaaGreatBw48

set_option linter.all false
set_option maxHeartbeats 4000000
set_option maxRecDepth 100000
namespace Go.Proofs.YtmmbicppdjgbmaaGreat

open Go.RowKit

attribute [local go_sem ↓] Go.wp_at_zero Go.wp_at_succ

theorem yri{B:Nat}{w:World}{jb s pb:Nat}{sl:Value}{J:Jd}(h:JgA B w jb s pb sl J)(c:Int):
  Calls Tryz.prog 113 #[some jb,c] w fun r w'=>r= .returned (if c<0\/(J.ps.length:Int)<=c then .pointer none else .pointer (some ⟨pb,c.toNat*10,.none⟩))/\w'=w:=by
 have b:∀ W a,(binOp .eql 94 (.pointer (some a)) (.pointer none)).run Tryz.prog W= .ok (.bool false) W:=fun W a=>by kernel_rfl
 have h1:=h.h1;generalize J.ps.length=n at *;by_cases hc:c<0
 ·rw[jP (.inl hc)];go_in;go_wp2;go_ret;exact⟨rfl,rfl⟩
 by_cases m:(n:Int)<=c
 ·rw[jP (.inr m)];unfold pvV at h1;by_cases h0:n=0
  ·subst h0;rw[jP rfl]at h1;go_in;go_wp2;go_ret;exact⟨rfl,rfl⟩
  rw[jN h0]at h1;go_in;go_wp2;go_ret;exact⟨rfl,rfl⟩
 rw[jN (by omega)];unfold pvV at h1;rw[jN (by omega)]at h1;have l:¬ (c>=(n:Int)):=by omega
 have j:c<(n:Int):=by omega
 have i:0<=c:=by omega
 go_in;go_wp2;go_ret;exact⟨rfl,rfl⟩
structure Left (B:Nat) (w w':World) (jb s pb:Nat) (sl:Value) (J':Jd):Prop where
 judge:∃ sl',JgA B w' jb s pb sl' J'/\(∀ k,sl'.ownBlock=some k->sl.ownBlock=some k\/w.heap.size<=k)
 only:Only (TG jb s pb sl) w w'
theorem ypc{B:Nat}{w:World}{jb s pb:Nat}{sl:Value}{J:Jd}(h:JgA B w jb s pb sl J)(e:Ev)(i o:Nat)(p:Pt)(hi:i<J.ps.length)(hp:J.ps[i]=p)(ho:o=i*10)(ha: -9223372036854775808<=e.at'/\e.at'<=9223372036854775807) (hn: -9223372036854775808<=e.n/\e.n<=9223372036854775807):
  Calls Tryz.prog 115 #[some jb,.pointer (some ⟨pb,o,.none⟩),e.val] w fun r w'=>r= .returned (.int .i64 (DC J.W J.l p e))/\
   Left B w w' jb s pb sl (if DC J.W J.l p e=0 then {J with l:=putB J.l e.at' e.n,ps:=J.ps.set i {p with took:=true,at':=e.at'}} else J):=by
 have I:=fun X=>jM p.n X;unfold Ev.val Ev.cells;have m:=(Below.refl w.heap.size w).alloc lr (.cells #[e.k,e.c,e.ok,e.oa,e.on,e.at',e.n,e.er] 68);have t1:=jA w (.cells #[e.k,e.c,e.ok,e.oa,e.on,e.at',e.n,e.er] 68);have N:=h.below m;have bi:J.ps≠ []:=fun e=>by rw[e]at hi;simp at hi
 obtain⟨bg,c0,c1,c2,c3,c4,c5,c6,c7,c8,c9,b9⟩:=ho ▸ (((N.row bi).pt i hi).KE hp);replace ho:=hd' ho;replace hp:=hd' hp;replace hi:=hd' hi;have cb:=h.lt;have cc:=h.plt;have cd:=h.model.lt;obtain⟨R,hR⟩:∃ R,Hid (DC J.W J.l p e=R):=⟨_,hd' rfl⟩;obtain⟨JR,G⟩:∃ JR,Hid ((if R=0 then {J with l:=putB J.l e.at' e.n,ps:=J.ps.set i {p with took:=true,at':=e.at'}} else J)=JR):=⟨_,hd' rfl⟩;rw[hR,G];have bu:(R=5/\(mayT p=false\/p.took=true\/lenB p.n=false\/lenV p.n≠e.n))\/((p.k=1\/p.k≠1/\p.k=3/\p.gave=true)/\p.took=false/\lenB p.n=true/\lenV p.n=e.n/\R=if iB J.W J.l e.at' e.n=true then 0 else 2):=by
  rw[<-hR];unfold DC;by_cases hb:mayT p=false\/p.took=true\/lenB p.n=false\/lenV p.n≠e.n
  ·rw[jP hb];exact .inl ⟨rfl,hb⟩
  rw[jN hb];simp only[not_or,Bool.not_eq_false,Bool.not_eq_true,ne_eq,Decidable.not_not]at hb;obtain⟨h1,h2,h3,h4⟩:=hb;refine .inr ⟨?_,h2,h3,h4,rfl⟩;simp only[mayT,Bool.or_eq_true,decide_eq_true_eq,jC]at h1;by_cases Z:p.k=1
  ·exact .inl Z
  exact .inr ⟨Z,by rcases h1 with h1|h1;exact absurd h1 Z;exact h1⟩
 rcases bu with⟨rfl,H⟩|⟨Z,ht,hl,hv,b0⟩
 ·have bq:JR=J:=by rw[<-G];rfl
  subst bq;replace H:=hd' H;have O:∀ W,jW w W->JgA B W jb s pb sl JR->Left B w W jb s pb sl JR:=fun W hb hj=>⟨⟨sl,hj,fun k e=>.inl e⟩,Only.of_below hb⟩;go_in;go_upto_region 1 with fail;generalize w.alloc (.cells #[e.k,e.c,e.ok,e.oa,e.on,e.at',e.n,e.er] 68)=W at *;obtain⟨E,hE,D⟩:=hidv w.heap.size;rw[<-D]at t1 ⊢;have e5:W.cell? ⟨E,5,.none⟩=some (.int .i64 e.at'):=iA t1 5;have bj:=iA t1;have h0:=N.h0;clear D;go_wp2_with (go_at_call 103;refine(I _).mono ?_;rintro r w1 ⟨rfl,hw⟩;obtain rfl:=hw.symm)
  all_goals first
   |(go_ret;exact⟨rfl,O _ m N⟩)
   |(exfalso;have H:=H.out;clear hR G O h m t1 N bg c0 c1 c2 c3 c4 c5 c6 c7 c8 c9 b9 e5 bj h0 I;simp_all [mayT])
 have cg:(lenV p.n !=e.n)=false:=by simpa using hv
 clear hv;have bz:∀ k,sl.ownBlock=some k->k<w.heap.size:=fun k Z=>(h.model.owns.lt k Z).2;have F:Hid (∀ X,PM B X s sl J.W J.l->jK 139 #[some s,e.at',e.n] X fun r w'=>r= .returned (.bool (iB J.W J.l e.at' e.n))/\∃ b,PM B w' s b J.W (takeB J.W J.l e.at' e.n)/\Only (foot s sl) X w'/\∀ k,foot s b k->foot s sl k\/X.heap.size<=k):=hd' fun X hX=>ypr hX e.at' e.n ha.1 ha.2 hn.1 hn.2;have S:Hid (∀ X C b l',w.heap.size<=X.heap.size->jW w X->JgA B X jb s pb sl J->PM B C s b J.W l'->Only (foot s sl) X C->(∀ k,foot s b k->foot s sl k\/X.heap.size<=k)->Left B w C jb s pb sl {J with l:=l'}):=hd' fun X C b l' hs hw hj hm ho hf=>by
  refine⟨⟨b,hj.setM hm ho hf,fun k e=>?_⟩,(Only.of_below hw).trans ho fun k _ e=>.inr (.inr e)⟩;rcases hf k (.inr e) with(h1|h1)|h1
  ·exact absurd (h1 ▸ e) hm.apart
  ·exact .inl h1
  exact .inr (by omega)
 rcases jB (iB J.W J.l e.at' e.n) with z|z
 ·rw[yN z,z]at F;rw[z,jP rfl]at b0;subst b0;obtain rfl:JR= {J with l:=putB J.l e.at' e.n,ps:=J.ps.set i {p with took:=true,at':=e.at'}}:=by rw[<-G,jP rfl]
  clear G hR z;rcases Z with Z|⟨bv,bx,hg⟩;all_goals
   go_in;go_upto_region 1 with fail;generalize w.alloc (.cells #[e.k,e.c,e.ok,e.oa,e.on,e.at',e.n,e.er] 68)=W at *;obtain⟨E,hE,D⟩:=hidv w.heap.size;rw[<-D]at t1 ⊢;have e5:W.cell? ⟨E,5,.none⟩=some (.int .i64 e.at'):=iA t1 5;have bk:=iA t1;have h0:=N.h0;clear D;go_upto_region 5 with(go_at_call 103;refine(I _).mono ?_;rintro r w1 ⟨rfl,hw⟩;obtain rfl:=hw.symm);have lj:jb<W.heap.size:=N.lt;have lE:E<W.heap.size:=(jE t1);refine wret 8 ?_;repeat (go_big_quiet_step (fail))
   refine wqn fun X b7=>?_;have y:=b7;have V:=m.trans (y.mono m.size);have M:=N.below y;have L:=kA y _ _ _ e5;have ba:E<X.heap.size:=HD L;clear c0 c1 c2 c3 c4 c5 c6 c7 c8 c9 b9 e5 bk h0 t1 y m N;go_wp2_with (go_at_call 139;refine(F X M.model).mono ?_;rintro r C ⟨rfl,b,hm,T,b1⟩);have bs:=S X C b _ V.size V M hm T b1;obtain⟨⟨ca,b6,bw⟩,bb⟩:=bs;have bn:¬ foot s sl E:=by
    have cf:=hE.out;rintro(e|e)
    ·omega
    have:=bz E e;omega
   have b5:C.cell? ⟨E,5,.none⟩=some (.int .i64 e.at'):=by have:=T.block E ba bn;simp only[World.cell?,this]at L ⊢;exact L
   have ch:E<C.heap.size:=HD b5;have b3:RowP C pb J.ps:=b6.row bi;have cj:pb<C.heap.size:=b3.lt;have bp:E≠pb:=by have:=hE.out;omega
   have b2:PtAt C pb o p:=ho.out ▸ ((b3.pt i hi.out).KE hp.out);have p6:=b2.c6;have p8:=b2.c8;have pf:=b2.fr;have b8:Hid (∀ W3,RowP W3 pb (J.ps.set i {p with took:=true,at':=e.at'})->Only (atP pb) C W3->Left B w W3 jb s pb sl {J with l:=putB J.l e.at' e.n,ps:=J.ps.set i {p with took:=true,at':=e.at'}}):=hd' fun W3 hr bh=>by refine⟨⟨ca,b6.setP (by rw[List.length_set]) hr bh,bw⟩,bb.trans bh fun k _ e=>.inr (.inl e)⟩
   have U:Hid (∀ (Y:World) (q:Pt) (j:Nat) (v:Value) (q':Pt),Only (atP pb) C Y->RowP Y pb (J.ps.set i q)->q.cells.set j v=q'.cells->j<10->Only (atP pb) C (Y.setCell ⟨pb,o+j,.none⟩ v)/\RowP (Y.setCell ⟨pb,o+j,.none⟩ v) pb (J.ps.set i q')):=hd' fun Y q j v q' h1 h2 h4 h5=>by rw[ho];refine⟨h1.setCell (p:=⟨pb,i*10+j,.none⟩) (.inl rfl) v,?_⟩;have:=h2.set i j v q' (by rw[List.length_set];exact hi.out) h5 (by rw[List.getElem_set_self];exact h4);rwa [List.set_set]at this
   have b4:RowP C pb (J.ps.set i p):=by rw[<-hp,List.set_getElem_self];exact b3
   have z0:=U C p 6 (.bool true) {p with took:=true} (Only.refl _ _) b4 rfl (by omega);have z1:=U _ _ 8 (.int .i64 e.at') {p with took:=true,at':=e.at'} z0.1 z0.2 rfl (by omega);replace z1:=hd' z1;clear z0 b4 U b2 b3 b6 hm T b1 bb S F M L ba;have bf:Hid (∀ (Y:World) (a:Nat) (v:Value),Y.cell? ⟨E,5,.none⟩=some (.int .i64 e.at')->(Y.setCell ⟨pb,a,.none⟩ v).cell? ⟨E,5,.none⟩=some (.int .i64 e.at')):=hd' fun Y a v h=>by have:=heap_setCell_other Y ⟨pb,a,.none⟩ E v (by simpa using bp);simp only[World.cell?,this]at h ⊢;exact h
   have bc:Hid (∀ (Y:World) (a:Nat) (v:Value),Y.cell? ⟨E,5,.none⟩=some (.int .i64 e.at')->(Y.setCell ⟨pb,a,.none⟩ v).drew.cell? ⟨E,5,.none⟩=some (.int .i64 e.at')):=hd' fun Y a v h=>bf Y a v h
   go_region_held3 (fun Y=>Y.cell? ⟨E,5,.none⟩=some (.int .i64 e.at'))
    (first|exact bc _ _ _ b5|exact bc _ _ _ (bf _ _ _ b5)|go_keep)
    (fail)
   go_wp2;go_ret;exact⟨rfl,b8 _ z1.out.2 z1.out.1.drew⟩
 rw[YQ z,z]at F;rw[z,jN Bool.false_ne_true]at b0;subst b0;obtain rfl:JR=J:=by rw[<-G,jN (by omega)]
 clear G hR z;rcases Z with Z|⟨bv,bx,hg⟩;all_goals
  go_in;go_upto_region 1 with fail;generalize w.alloc (.cells #[e.k,e.c,e.ok,e.oa,e.on,e.at',e.n,e.er] 68)=W at *;obtain⟨E,hE,D⟩:=hidv w.heap.size;rw[<-D]at t1 ⊢;have e5:W.cell? ⟨E,5,.none⟩=some (.int .i64 e.at'):=iA t1 5;have bm:=iA t1;have h0:=N.h0;clear D;go_upto_region 5 with(go_at_call 103;refine(I _).mono ?_;rintro r w1 ⟨rfl,hw⟩;obtain rfl:=hw.symm);have lj:jb<W.heap.size:=N.lt;have lE:E<W.heap.size:=(jE t1);refine wret 8 ?_;repeat (go_big_quiet_step (fail))
  refine wqn fun X b7=>?_;have y:=b7;have V:=m.trans (y.mono m.size);have M:=N.below y;have L:=kA y _ _ _ e5;have ba:E<X.heap.size:=HD L;clear c0 c1 c2 c3 c4 c5 c6 c7 c8 c9 b9 e5 bm h0 t1 y m N;go_wp2_with (go_at_call 139;refine(F X M.model).mono ?_;rintro r C ⟨rfl,b,hm,T,b1⟩);go_ret;exact⟨rfl,S X C b _ V.size V M hm T b1⟩
theorem RR{l:List Bk}{a:Int}(h:OA a l=false):UA l a=l:=by unfold UA;rw[jN (by simp[h])]
theorem ypt{B:Nat}{w:World}{jb s pb:Nat}{sl:Value}{J:Jd}(h:JgA B w jb s pb sl J)(e:Ev)(i o:Nat)(p:Pt)(hi:i<J.ps.length)(hp:J.ps[i]=p)(ho:o=i*10):
  Calls Tryz.prog 116 #[some jb,.pointer (some ⟨pb,o,.none⟩),e.val] w fun r w'=>r= .returned (.int .i64 (FC J.l p e))/\
   Left B w w' jb s pb sl (if FC J.l p e=0 then {J with l:=UA J.l e.at',ps:=J.ps.set i {p with gave:=true}} else J):=by
 unfold Ev.val Ev.cells;have y:=(Below.refl w.heap.size w).alloc lr (.cells #[e.k,e.c,e.ok,e.oa,e.on,e.at',e.n,e.er] 68);have t1:=heap_alloc_new w (.cells #[e.k,e.c,e.ok,e.oa,e.on,e.at',e.n,e.er] 68);have H:=h.below y;have bg:J.ps≠ []:=fun e=>by rw[e]at hi;simp at hi
 obtain⟨bs,c0,c1,c2,c3,c4,c5,c6,c7,c8,c9,Z⟩:=ho ▸ (((H.row bg).pt i hi).KE hp);replace ho:=hd' ho;replace hp:=hd' hp;replace hi:=hd' hi;have bu:=h.lt;have bv:=h.plt;have bw:=h.model.lt;obtain⟨R,hR⟩:∃ R,Hid (FC J.l p e=R):=⟨_,hd' rfl⟩;obtain⟨JR,S⟩:∃ JR,Hid ((if R=0 then {J with l:=UA J.l e.at',ps:=J.ps.set i {p with gave:=true}} else J)=JR):=⟨_,hd' rfl⟩;rw[hR.out,S.out];have bj:(R=5/\((p.k≠2/\p.k≠3)\/((p.k=2\/p.k≠2/\p.k=3)/\(p.gave=true\/p.gave=false/\e.at'≠p.a))))\/((p.k=2\/p.k≠2/\p.k=3)/\p.gave=false/\e.at'=p.a/\R=if OA e.at' J.l=true then 0 else 3):=by rw[<-hR.out];unfold FC mayG;by_cases h2:p.k=2<;>by_cases h3:p.k=3<;>by_cases h4:e.at'=p.a<;>cases p.gave<;>simp_all
 have bx:∀ k,sl.ownBlock=some k->k<w.heap.size:=fun k hk=>(h.model.owns.lt k hk).2;have C:Hid (∀ X,PM B X s sl J.W J.l->Calls Tryz.prog 140 #[some s,e.at'] X fun r w'=>r= .returned (.bool (OA e.at' J.l))/\∃ z,PM B w' s z J.W (UA J.l e.at')/\Only (foot s sl) X w'/\∀ k,foot s z k->foot s sl k):=hd' fun X hX=>ypp hX e.at';have T:Hid (∀ X L z l',Below w.heap.size w X->JgA B X jb s pb sl J->PM B L s z J.W l'->Only (foot s sl) X L->(∀ k,foot s z k->foot s sl k)->∃ z,JgA B L jb s pb z {J with l:=l'}/\(∀ k,z.ownBlock=some k->sl.ownBlock=some k\/w.heap.size<=k)/\Only (TG jb s pb sl) w L):=hd' fun X L z l' hw hj hm ho hf=>by
  refine⟨z,hj.setM hm ho (fun k e=>.inl (hf k e)),fun k e=>?_,(Only.of_below hw).trans ho fun k _ e=>.inr (.inr e)⟩;rcases hf k (.inr e) with h1|h1
  ·exact absurd (h1 ▸ e) hm.apart
  exact .inl h1
 have q:Hid (∀ W,Below w.heap.size w W->JgA B W jb s pb sl J->Left B w W jb s pb sl J):=hd' fun W hb hj=>⟨⟨sl,hj,fun k e=>.inl e⟩,Only.of_below hb⟩;rcases bj with⟨rfl,ba⟩|⟨hk,hg,ha,b3⟩
 ·have b9:J=JR:=by rw[<-S.out];rfl
  subst b9;clear S hR C T;rcases ba with⟨b0,bm⟩|⟨hk,ba⟩
  ·have bp:(p.k==2)=false:=by simpa using b0
   have bq:(p.k==3)=false:=by simpa using bm
   go_in;go_upto_region 1 with fail;generalize w.alloc (.cells #[e.k,e.c,e.ok,e.oa,e.on,e.at',e.n,e.er] 68)=W at *;obtain⟨E,hE,j⟩:=hidv w.heap.size;rw[<-j]at t1 ⊢;have M:W.cell? ⟨E,5,.none⟩=some (.int .i64 e.at'):=iA t1 5;have h0:=H.h0;clear j;go_upto_region 2 with fail;go_quiet (fail);have m:Below w.heap.size w (W.drewN nq):=below_drewN y nq;have b:JgA B (W.drewN nq) jb s pb sl J:=H.below (below_drewN br nq);have p7:(W.drewN nq).cell? ⟨pb,o+7,.none⟩=some (.bool p.gave):=c7;have F:(W.drewN nq).cell? ⟨E,5,.none⟩=some (.int .i64 e.at'):=M;have N:=b.h0;clear c0 c1 c2 c3 c4 c5 c6 c7 c8 c9 Z M h0 t1 y H;generalize W.drewN nq=V at *;go_wp2;go_ret;exact⟨rfl,q.out _ m b⟩
  rcases ba with hg|⟨hg,bk⟩
  ·rcases hk with hk|⟨bb,hk⟩
   ·have bc:(p.k==2)=true:=by simpa using hk
    go_in;go_upto_region 1 with fail;generalize w.alloc (.cells #[e.k,e.c,e.ok,e.oa,e.on,e.at',e.n,e.er] 68)=W at *;obtain⟨E,hE,j⟩:=hidv w.heap.size;rw[<-j]at t1 ⊢;have M:W.cell? ⟨E,5,.none⟩=some (.int .i64 e.at'):=iA t1 5;have h0:=H.h0;clear j;go_upto_region 2 with fail;go_quiet (fail);have m:Below w.heap.size w (W.drewN nq):=below_drewN y nq;have b:JgA B (W.drewN nq) jb s pb sl J:=H.below (below_drewN br nq);have p7:(W.drewN nq).cell? ⟨pb,o+7,.none⟩=some (.bool p.gave):=c7;have F:(W.drewN nq).cell? ⟨E,5,.none⟩=some (.int .i64 e.at'):=M;have N:=b.h0;clear c0 c1 c2 c3 c4 c5 c6 c7 c8 c9 Z M h0 t1 y H;generalize W.drewN nq=V at *;go_wp2;go_ret;exact⟨rfl,q.out _ m b⟩
   have bc:(p.k==2)=false:=by simpa using bb
   have bi:(p.k==3)=true:=by simpa using hk
   go_in;go_upto_region 1 with fail;generalize w.alloc (.cells #[e.k,e.c,e.ok,e.oa,e.on,e.at',e.n,e.er] 68)=W at *;obtain⟨E,hE,j⟩:=hidv w.heap.size;rw[<-j]at t1 ⊢;have M:W.cell? ⟨E,5,.none⟩=some (.int .i64 e.at'):=iA t1 5;have h0:=H.h0;clear j;go_upto_region 2 with fail;go_quiet (fail);have m:Below w.heap.size w (W.drewN nq):=below_drewN y nq;have b:JgA B (W.drewN nq) jb s pb sl J:=H.below (below_drewN br nq);have p7:(W.drewN nq).cell? ⟨pb,o+7,.none⟩=some (.bool p.gave):=c7;have F:(W.drewN nq).cell? ⟨E,5,.none⟩=some (.int .i64 e.at'):=M;have N:=b.h0;clear c0 c1 c2 c3 c4 c5 c6 c7 c8 c9 Z M h0 t1 y H;generalize W.drewN nq=V at *;go_wp2;go_ret;exact⟨rfl,q.out _ m b⟩
  have bh:(e.at' !=p.a)=true:=by simpa using bk
  rcases hk with hk|⟨bb,hk⟩
  ·have bc:(p.k==2)=true:=by simpa using hk
   go_in;go_upto_region 1 with fail;generalize w.alloc (.cells #[e.k,e.c,e.ok,e.oa,e.on,e.at',e.n,e.er] 68)=W at *;obtain⟨E,hE,j⟩:=hidv w.heap.size;rw[<-j]at t1 ⊢;have M:W.cell? ⟨E,5,.none⟩=some (.int .i64 e.at'):=iA t1 5;have h0:=H.h0;clear j;go_upto_region 2 with fail;go_quiet (fail);have m:Below w.heap.size w (W.drewN nq):=below_drewN y nq;have b:JgA B (W.drewN nq) jb s pb sl J:=H.below (below_drewN br nq);have p7:(W.drewN nq).cell? ⟨pb,o+7,.none⟩=some (.bool p.gave):=c7;have F:(W.drewN nq).cell? ⟨E,5,.none⟩=some (.int .i64 e.at'):=M;have N:=b.h0;clear c0 c1 c2 c3 c4 c5 c6 c7 c8 c9 Z M h0 t1 y H;generalize W.drewN nq=V at *;go_wp2;go_ret;exact⟨rfl,q.out _ m b⟩
  have bc:(p.k==2)=false:=by simpa using bb
  have bi:(p.k==3)=true:=by simpa using hk
  go_in;go_upto_region 1 with fail;generalize w.alloc (.cells #[e.k,e.c,e.ok,e.oa,e.on,e.at',e.n,e.er] 68)=W at *;obtain⟨E,hE,j⟩:=hidv w.heap.size;rw[<-j]at t1 ⊢;have M:W.cell? ⟨E,5,.none⟩=some (.int .i64 e.at'):=iA t1 5;have h0:=H.h0;clear j;go_upto_region 2 with fail;go_quiet (fail);have m:Below w.heap.size w (W.drewN nq):=below_drewN y nq;have b:JgA B (W.drewN nq) jb s pb sl J:=H.below (below_drewN br nq);have p7:(W.drewN nq).cell? ⟨pb,o+7,.none⟩=some (.bool p.gave):=c7;have F:(W.drewN nq).cell? ⟨E,5,.none⟩=some (.int .i64 e.at'):=M;have N:=b.h0;clear c0 c1 c2 c3 c4 c5 c6 c7 c8 c9 Z M h0 t1 y H;generalize W.drewN nq=V at *;go_wp2;go_ret;exact⟨rfl,q.out _ m b⟩
 have bh:(e.at' !=p.a)=false:=by simpa using ha
 clear ha;rcases hk with hk|⟨bb,hk⟩
 ·have bc:(p.k==2)=true:=by simpa using hk
  rcases Bool.eq_false_or_eq_true (OA e.at' J.l) with D|D
  ·rw[D]at C;rw[D,if_pos rfl]at b3;subst b3;obtain rfl:JR= {J with l:=UA J.l e.at',ps:=J.ps.set i {p with gave:=true}}:=by rw[<-S.out,if_pos rfl]
   clear S hR D q;go_in;go_upto_region 1 with fail;generalize w.alloc (.cells #[e.k,e.c,e.ok,e.oa,e.on,e.at',e.n,e.er] 68)=W at *;obtain⟨E,hE,j⟩:=hidv w.heap.size;rw[<-j]at t1 ⊢;have M:W.cell? ⟨E,5,.none⟩=some (.int .i64 e.at'):=iA t1 5;have h0:=H.h0;clear j;go_upto_region 2 with fail;go_quiet (fail);have m:Below w.heap.size w (W.drewN nq):=below_drewN y nq;have b:JgA B (W.drewN nq) jb s pb sl J:=H.below (below_drewN br nq);have p7:(W.drewN nq).cell? ⟨pb,o+7,.none⟩=some (.bool p.gave):=c7;have F:(W.drewN nq).cell? ⟨E,5,.none⟩=some (.int .i64 e.at'):=M;have N:=b.h0;clear c0 c1 c2 c3 c4 c5 c6 c7 c8 c9 Z M h0 t1 y H;generalize W.drewN nq=V at *;have lj:jb<V.heap.size:=b.lt;have lE:E<V.heap.size:=HD F;go_wp2_with fail;refine wret 6 ?_;repeat (go_big_quiet_step (fail))
   refine wqn fun X b4=>?_;have G:=b4;have b7:=m.trans (G.mono m.size);have I:=b.below G;clear b m F N p7 G;go_upto_region 6 with(go_at_call 140;refine(C.out X I.model).mono ?_;rintro r L ⟨rfl,z,hm,b1,Y⟩);obtain⟨b8,O,b0,U⟩:=T.out X L z _ b7 I hm b1 Y;have b2:RowP L pb J.ps:=O.row bg;have bn:pb<L.heap.size:=b2.lt;have b6:PtAt L pb o p:=ho.out ▸ ((b2.pt i hi.out).KE hp.out);have p7:=b6.c7;have pf:=b6.fr;have bf:RowP (L.setCell ⟨pb,o+7,.none⟩ (.bool true)) pb (J.ps.set i {p with gave:=true}):=by rw[ho.out];exact b2.set i 7 (.bool true) {p with gave:=true} hi.out (by omega) (by rw[hp.out];rfl)
   have b5:Only (atP pb) L (L.setCell ⟨pb,o+7,.none⟩ (.bool true)):=(Only.refl _ _).setCell (p:=⟨pb,o+7,.none⟩) (.inl (show atP pb pb from rfl)) _;have hL:Left B w (L.setCell ⟨pb,o+7,.none⟩ (.bool true)) jb s pb sl {J with l:=UA J.l e.at',ps:=J.ps.set i {p with gave:=true}}:=⟨⟨b8,O.setP (by rw[List.length_set]) bf b5,b0⟩,U.trans b5 fun k _ e=>.inr (.inl e)⟩;clear b2 O hm b1 Y U T C I b6 bf b5;go_wp2;go_ret;exact⟨rfl,hL⟩
  rw[RR D,D]at C;rw[D,if_neg Bool.false_ne_true]at b3;subst b3;have b9:J=JR:=by rw[<-S.out,if_neg (by omega)]
  subst b9;clear S hR D q;go_in;go_upto_region 1 with fail;generalize w.alloc (.cells #[e.k,e.c,e.ok,e.oa,e.on,e.at',e.n,e.er] 68)=W at *;obtain⟨E,hE,j⟩:=hidv w.heap.size;rw[<-j]at t1 ⊢;have M:W.cell? ⟨E,5,.none⟩=some (.int .i64 e.at'):=iA t1 5;have h0:=H.h0;clear j;go_upto_region 2 with fail;go_quiet (fail);have m:Below w.heap.size w (W.drewN nq):=below_drewN y nq;have b:JgA B (W.drewN nq) jb s pb sl J:=H.below (below_drewN br nq);have p7:(W.drewN nq).cell? ⟨pb,o+7,.none⟩=some (.bool p.gave):=c7;have F:(W.drewN nq).cell? ⟨E,5,.none⟩=some (.int .i64 e.at'):=M;have N:=b.h0;clear c0 c1 c2 c3 c4 c5 c6 c7 c8 c9 Z M h0 t1 y H;generalize W.drewN nq=V at *;have lj:jb<V.heap.size:=b.lt;have lE:E<V.heap.size:=HD F;go_wp2_with fail;refine wret 6 ?_;repeat (go_big_quiet_step (fail))
  refine wqn fun X b4=>?_;have G:=b4;have b7:=m.trans (G.mono m.size);have I:=b.below G;clear b m F N p7 G;go_wp2_with (go_at_call 140;refine(C.out X I.model).mono ?_;rintro r L ⟨rfl,z,hm,b1,Y⟩);obtain⟨b8,O,b0,U⟩:=T.out X L z _ b7 I hm b1 Y;go_wp2;go_ret;exact⟨rfl,⟨b8,O,b0⟩,U⟩
 have bc:(p.k==2)=false:=by simpa using bb
 have bi:(p.k==3)=true:=by simpa using hk
 rcases Bool.eq_false_or_eq_true (OA e.at' J.l) with D|D
 ·rw[D]at C;rw[D,if_pos rfl]at b3;subst b3;obtain rfl:JR= {J with l:=UA J.l e.at',ps:=J.ps.set i {p with gave:=true}}:=by rw[<-S.out,if_pos rfl]
  clear S hR D q;go_in;go_upto_region 1 with fail;generalize w.alloc (.cells #[e.k,e.c,e.ok,e.oa,e.on,e.at',e.n,e.er] 68)=W at *;obtain⟨E,hE,j⟩:=hidv w.heap.size;rw[<-j]at t1 ⊢;have M:W.cell? ⟨E,5,.none⟩=some (.int .i64 e.at'):=iA t1 5;have h0:=H.h0;clear j;go_upto_region 2 with fail;go_quiet (fail);have m:Below w.heap.size w (W.drewN nq):=below_drewN y nq;have b:JgA B (W.drewN nq) jb s pb sl J:=H.below (below_drewN br nq);have p7:(W.drewN nq).cell? ⟨pb,o+7,.none⟩=some (.bool p.gave):=c7;have F:(W.drewN nq).cell? ⟨E,5,.none⟩=some (.int .i64 e.at'):=M;have N:=b.h0;clear c0 c1 c2 c3 c4 c5 c6 c7 c8 c9 Z M h0 t1 y H;generalize W.drewN nq=V at *;have lj:jb<V.heap.size:=b.lt;have lE:E<V.heap.size:=HD F;go_wp2_with fail;refine wret 6 ?_;repeat (go_big_quiet_step (fail))
  refine wqn fun X b4=>?_;have G:=b4;have b7:=m.trans (G.mono m.size);have I:=b.below G;clear b m F N p7 G;go_upto_region 6 with(go_at_call 140;refine(C.out X I.model).mono ?_;rintro r L ⟨rfl,z,hm,b1,Y⟩);obtain⟨b8,O,b0,U⟩:=T.out X L z _ b7 I hm b1 Y;have b2:RowP L pb J.ps:=O.row bg;have bn:pb<L.heap.size:=b2.lt;have b6:PtAt L pb o p:=ho.out ▸ ((b2.pt i hi.out).KE hp.out);have p7:=b6.c7;have pf:=b6.fr;have bf:RowP (L.setCell ⟨pb,o+7,.none⟩ (.bool true)) pb (J.ps.set i {p with gave:=true}):=by rw[ho.out];exact b2.set i 7 (.bool true) {p with gave:=true} hi.out (by omega) (by rw[hp.out];rfl)
  have b5:Only (atP pb) L (L.setCell ⟨pb,o+7,.none⟩ (.bool true)):=(Only.refl _ _).setCell (p:=⟨pb,o+7,.none⟩) (.inl (show atP pb pb from rfl)) _;have hL:Left B w (L.setCell ⟨pb,o+7,.none⟩ (.bool true)) jb s pb sl {J with l:=UA J.l e.at',ps:=J.ps.set i {p with gave:=true}}:=⟨⟨b8,O.setP (by rw[List.length_set]) bf b5,b0⟩,U.trans b5 fun k _ e=>.inr (.inl e)⟩;clear b2 O hm b1 Y U T C I b6 bf b5;go_wp2;go_ret;exact⟨rfl,hL⟩
 rw[RR D,D]at C;rw[D,if_neg Bool.false_ne_true]at b3;subst b3;have b9:J=JR:=by rw[<-S.out,if_neg (by omega)]
 subst b9;clear S hR D q;go_in;go_upto_region 1 with fail;generalize w.alloc (.cells #[e.k,e.c,e.ok,e.oa,e.on,e.at',e.n,e.er] 68)=W at *;obtain⟨E,hE,j⟩:=hidv w.heap.size;rw[<-j]at t1 ⊢;have M:W.cell? ⟨E,5,.none⟩=some (.int .i64 e.at'):=iA t1 5;have h0:=H.h0;clear j;go_upto_region 2 with fail;go_quiet (fail);have m:Below w.heap.size w (W.drewN nq):=below_drewN y nq;have b:JgA B (W.drewN nq) jb s pb sl J:=H.below (below_drewN br nq);have p7:(W.drewN nq).cell? ⟨pb,o+7,.none⟩=some (.bool p.gave):=c7;have F:(W.drewN nq).cell? ⟨E,5,.none⟩=some (.int .i64 e.at'):=M;have N:=b.h0;clear c0 c1 c2 c3 c4 c5 c6 c7 c8 c9 Z M h0 t1 y H;generalize W.drewN nq=V at *;have lj:jb<V.heap.size:=b.lt;have lE:E<V.heap.size:=HD F;go_wp2_with fail;refine wret 6 ?_;repeat (go_big_quiet_step (fail))
 refine wqn fun X b4=>?_;have G:=b4;have b7:=m.trans (G.mono m.size);have I:=b.below G;clear b m F N p7 G;go_wp2_with (go_at_call 140;refine(C.out X I.model).mono ?_;rintro r L ⟨rfl,z,hm,b1,Y⟩);obtain⟨b8,O,b0,U⟩:=T.out X L z _ b7 I hm b1 Y;go_wp2;go_ret;exact⟨rfl,⟨b8,O,b0⟩,U⟩
theorem yqe{B:Nat}{w:World}{jb s pb:Nat}{sl:Value}{J:Jd}(h:JgA B w jb s pb sl J)(e:Ev)(hf:e.k=3->e.fit):
  Calls Tryz.prog 76 #[some jb,e.val] w fun r w'=>r= .returned (.int .i64 (whyJ J.W J.l J.ps e).c)/\
   Left B w w' jb s pb sl {J with l:=(whyJ J.W J.l J.ps e).l,ps:=(whyJ J.W J.l J.ps e).ps}:=by
 have b0:∀ W a,(binOp .eql 227 (.pointer (some a)) (.pointer none)).run Tryz.prog W= .ok (.bool false) W:=fun W a=>by kernel_rfl
 have bq:∀ W,(binOp .eql 227 (.pointer none) (.pointer none)).run Tryz.prog W= .ok (.bool true) W:=fun W=>by kernel_rfl
 have F:=(Below.refl w.heap.size w).alloc lr (.cells #[e.k,e.c,e.ok,e.oa,e.on,e.at',e.n,e.er] 68);have t1:=jA w (.cells #[e.k,e.c,e.ok,e.oa,e.on,e.at',e.n,e.er] 68);have hJ:=h.below F;obtain⟨E,hE,D⟩:=hidv w.heap.size;have bh:∃ (R:Int) (T:Jd),Hid (R=(whyJ J.W J.l J.ps e).c)/\Hid (T= {J with l:=(whyJ J.W J.l J.ps e).l,ps:=(whyJ J.W J.l J.ps e).ps}):=⟨_,_,hd' rfl,hd' rfl⟩;obtain⟨R,T,hR,q⟩:=bh;rw[<-hR,<- q];have b:=yri hJ e.c;have m:∀ W w',jW w W->Left B W w' jb s pb sl T->Left B w w' jb s pb sl T:=fun W w' hb hl=>by
  obtain⟨⟨bu,hj,hk⟩,ho⟩:=hl;refine⟨⟨bu,hj,fun k e=>?_⟩,(Only.of_below hb).trans ho fun _ _ e=>e⟩;rcases hk k e with h1|h1
  ·exact .inl h1
  exact .inr (by have:=hb.size;omega)
 unfold Ev.val Ev.cells;by_cases hc:e.c<0\/(J.ps.length:Int)<=e.c
 ·rw[jP hc]at b;have C:whyJ J.W J.l J.ps e=⟨1,J.l,J.ps⟩:=by unfold whyJ;rw[jP (by rcases hc with h|h;exact .inl h;exact .inr (.inl h))]
  obtain rfl:R=1:=by rw[hR,C]
  obtain rfl:T=J:=by rw[q,C]
  replace b:=hd' b;have z:Hid (Left B w (w.alloc (.cells #[e.k,e.c,e.ok,e.oa,e.on,e.at',e.n,e.er] 68)) jb s pb sl T):=hd' ⟨⟨sl,hJ,fun k e=>.inl e⟩,Only.of_below F⟩;clear C hc m;go_in;go_wp2_with (go_at_call 113;refine b.out.mono ?_;rintro r w1 ⟨rfl,C⟩;obtain rfl:=C.symm);go_ret;exact⟨rfl,z.out⟩
 rw[jN hc]at b;obtain⟨i,hi⟩:∃ i:Nat,e.c=(i:Int):=⟨e.c.toNat,by omega⟩;have I:i<J.ps.length:=by omega
 have N:e.c.toNat=i:=by omega
 rw[N]at b;have bi:J.ps≠ []:=fun e=>by rw[e]at I;simp at I
 obtain⟨p,hp⟩:∃ p,J.ps[i]=p:=⟨_,rfl⟩;have Z:J.ps.getD i Pt.zero=p:=by rw[List.getD_eq_getElem?_getD,List.getElem?_eq_getElem I,hp];rfl
 by_cases hk:e.k<0\/5<e.k
 ·have C:whyJ J.W J.l J.ps e=⟨1,J.l,J.ps⟩:=by unfold whyJ;rw[jP (by rcases hk with h|h;exact .inr (.inr (.inl h));exact .inr (.inr (.inr h)))]
  obtain rfl:R=1:=by rw[hR,C]
  obtain rfl:T=J:=by rw[q,C]
  replace b:=hd' b;have z:Hid (Left B w (w.alloc (.cells #[e.k,e.c,e.ok,e.oa,e.on,e.at',e.n,e.er] 68)) jb s pb sl T):=hd' ⟨⟨sl,hJ,fun k e=>.inl e⟩,Only.of_below F⟩;clear C hc m hi N Z;rcases hk with hk|hk
  ·go_in;go_wp2_with (go_at_call 113;refine b.out.mono ?_;rintro r w1 ⟨rfl,C⟩;obtain rfl:=C.symm);go_ret;exact⟨rfl,z.out⟩
  have cd:¬ e.k<0:=by omega
  go_in;go_wp2_with (go_at_call 113;refine b.out.mono ?_;rintro r w1 ⟨rfl,C⟩;obtain rfl:=C.symm);go_ret;exact⟨rfl,z.out⟩
 have cc:¬ e.k<0:=by omega
 have cf:¬ 5<e.k:=by omega
 have j:whyJ J.W J.l J.ps e=(if e.k<3 then⟨qC p e,J.l,J.ps.set i (CC p e)⟩
   else if p.lives=false\/p.asks=false then⟨1,J.l,J.ps⟩
   else if e.k=3 then(if DC J.W J.l p e=0 then⟨0,putB J.l e.at' e.n,J.ps.set i {p with took:=true,at':=e.at'}⟩ else⟨DC J.W J.l p e,J.l,J.ps⟩)
   else if e.k=4 then(if FC J.l p e=0 then⟨0,UA J.l e.at',J.ps.set i {p with gave:=true}⟩ else⟨FC J.l p e,J.l,J.ps⟩)
   else if WB p e=true then⟨0,J.l,J.ps.set i {p with asks:=false}⟩ else⟨4,J.l,J.ps⟩):=by
  unfold whyJ
  rw[jN (by omega),N,Z]
 have G:=hJ.row bi;have S:PtAt (w.alloc (.cells #[e.k,e.c,e.ok,e.oa,e.on,e.at',e.n,e.er] 68)) pb (i*10) p:=(G.pt i I).KE hp;obtain⟨o,ho,bm⟩:∃ o,Hid (o=i*10)/\o=i*10:=⟨_,hd' rfl,rfl⟩;rw[<-bm]at b S;clear bm hk hc;by_cases bj:e.k<3
 ·rw[jP bj]at j;have b8:=ymy e pb i o J.ps p _ G I hp ho.out;unfold Ev.val Ev.cells at b8;have M:Hid (∀ w',Only (atP pb) (w.alloc (.cells #[e.k,e.c,e.ok,e.oa,e.on,e.at',e.n,e.er] 68)) w'->RowP w' pb (J.ps.set i (CC p e))->Left B w w' jb s pb sl T):=hd' fun w' ho hr=>by refine m _ _ F ?_;rw[q,j];exact⟨⟨sl,hJ.setP (by rw[List.length_set]) hr ho,fun k e=>.inl e⟩,ho.mono' fun k e=>.inr (.inl e)⟩
  obtain rfl:R=qC p e:=by rw[hR,j]
  replace b8:=hd' b8;replace b:=hd' b;clear j m hJ G hi N Z q hR;go_in;go_upto_region 1 with fail;generalize w.alloc (.cells #[e.k,e.c,e.ok,e.oa,e.on,e.at',e.n,e.er] 68)=W at *;rw[<-D]at t1 ⊢;obtain⟨O,c0,c1,c2,c3,c4,c5,c6,c7,c8,c9,b5⟩:=S;have bv:=iA t1;clear D;go_wp2_with (first|(go_at_call 113;refine b.out.mono ?_;rintro r w1 ⟨rfl,C⟩;obtain rfl:=C.symm)|(go_at_call 114;refine b8.out.mono ?_;rintro r w2 ⟨rfl,bs,b9⟩));go_ret;exact⟨rfl,M _ bs b9⟩
 rw[jN bj]at j;by_cases b2:p.lives=false\/p.asks=false
 ·rw[jP b2]at j;obtain rfl:R=1:=by rw[hR,j]
  obtain rfl:T=J:=by rw[q,j]
  replace b:=hd' b;have z:Hid (Left B w (w.alloc (.cells #[e.k,e.c,e.ok,e.oa,e.on,e.at',e.n,e.er] 68)) jb s pb sl T):=hd' ⟨⟨sl,hJ,fun k e=>.inl e⟩,Only.of_below F⟩;clear j m hJ G hi N Z q hR;by_cases hl:p.lives=false
  ·clear b2;go_in;go_upto_region 1 with fail;generalize w.alloc (.cells #[e.k,e.c,e.ok,e.oa,e.on,e.at',e.n,e.er] 68)=W at *;rw[<-D]at t1 ⊢;obtain⟨O,c0,c1,c2,c3,c4,c5,c6,c7,c8,c9,b5⟩:=S;have bw:=iA t1;clear D;go_wp2_with (go_at_call 113;refine b.out.mono ?_;rintro r w1 ⟨rfl,C⟩;obtain rfl:=C.symm);go_ret;exact⟨rfl,z.out⟩
  have bn:p.lives=true:=by simpa using hl
  have bp:p.asks=false:=b2.resolve_left hl;clear b2 hl;go_in;go_upto_region 1 with fail;generalize w.alloc (.cells #[e.k,e.c,e.ok,e.oa,e.on,e.at',e.n,e.er] 68)=W at *;rw[<-D]at t1 ⊢;obtain⟨O,c0,c1,c2,c3,c4,c5,c6,c7,c8,c9,b5⟩:=S;have bx:=iA t1;clear D;go_wp2_with (go_at_call 113;refine b.out.mono ?_;rintro r w1 ⟨rfl,C⟩;obtain rfl:=C.symm);go_ret;exact⟨rfl,z.out⟩
 rw[jN b2]at j;have bn:p.lives=true:=by cases hp1:p.lives<;>simp_all
 have bp:p.asks=true:=by cases hp1:p.asks<;>simp_all
 clear b2;by_cases y:e.k=3
 ·rw[jP y]at j;have L:=ypc hJ e i o p I hp ho (hf y).1 (hf y).2;unfold Ev.val Ev.cells at L;have M:Hid (∀ w',Left B (w.alloc (.cells #[e.k,e.c,e.ok,e.oa,e.on,e.at',e.n,e.er] 68)) w' jb s pb sl (if DC J.W J.l p e=0 then {J with l:=putB J.l e.at' e.n,ps:=J.ps.set i {p with took:=true,at':=e.at'}} else J)->Left B w w' jb s pb sl T):=hd' fun w' z=>by
   refine m _ _ F ?_;rw[q,j];by_cases h0:DC J.W J.l p e=0
   ·rw[jP h0]at z ⊢;exact z
   rw[jN h0]at z ⊢;exact z
  obtain rfl:R=DC J.W J.l p e:=by
   rw[hR,j];by_cases h0:DC J.W J.l p e=0
   ·rw[jP h0];exact h0.symm
   rw[jN h0]
  have bb:(e.k==3)=true:=by simpa using y
  replace y:=hd' y;replace L:=hd' L;replace b:=hd' b;clear j m hJ G hi N Z q hR;go_in;go_upto_region 1 with fail;generalize w.alloc (.cells #[e.k,e.c,e.ok,e.oa,e.on,e.at',e.n,e.er] 68)=W at *;rw[<-D]at t1 ⊢;obtain⟨O,c0,c1,c2,c3,c4,c5,c6,c7,c8,c9,b5⟩:=S;have bz:=iA t1;clear D;go_wp2_with (first|(go_at_call 113;refine b.out.mono ?_;rintro r w1 ⟨rfl,C⟩;obtain rfl:=C.symm)|(go_at_call 115;refine L.out.mono ?_;rintro r w2 ⟨rfl,z⟩));go_ret;exact⟨rfl,M _ z⟩
 rw[jN y]at j;by_cases H:e.k=4
 ·rw[jP H]at j;have L:=ypt hJ e i o p I hp ho.out;unfold Ev.val Ev.cells at L;have M:Hid (∀ w',Left B (w.alloc (.cells #[e.k,e.c,e.ok,e.oa,e.on,e.at',e.n,e.er] 68)) w' jb s pb sl (if FC J.l p e=0 then {J with l:=UA J.l e.at',ps:=J.ps.set i {p with gave:=true}} else J)->Left B w w' jb s pb sl T):=hd' fun w' z=>by
   refine m _ _ F ?_;rw[q,j];by_cases h0:FC J.l p e=0
   ·rw[jP h0]at z ⊢;exact z
   rw[jN h0]at z ⊢;exact z
  obtain rfl:R=FC J.l p e:=by
   rw[hR,j];by_cases h0:FC J.l p e=0
   ·rw[jP h0];exact h0.symm
   rw[jN h0]
  have bb:(e.k==3)=false:=by simpa using y
  have bk:(e.k==4)=true:=by simpa using H
  replace H:=hd' H;replace L:=hd' L;replace b:=hd' b;clear j m hJ G hi N Z q hR;go_in;go_upto_region 1 with fail;generalize w.alloc (.cells #[e.k,e.c,e.ok,e.oa,e.on,e.at',e.n,e.er] 68)=W at *;rw[<-D]at t1 ⊢;obtain⟨O,c0,c1,c2,c3,c4,c5,c6,c7,c8,c9,b5⟩:=S;have ca:=iA t1;clear D;go_wp2_with (first|(go_at_call 113;refine b.out.mono ?_;rintro r w1 ⟨rfl,C⟩;obtain rfl:=C.symm)|(go_at_call 116;refine L.out.mono ?_;rintro r w2 ⟨rfl,z⟩));go_ret;exact⟨rfl,M _ z⟩
 rw[jN H]at j;have ba:e.k=5:=by omega
 have b3:=hd' (fun X (hX:PtAt X pb o p)=>ymf p e pb o X hX);unfold Ev.val Ev.cells at b3;have bb:(e.k==3)=false:=by simpa using y
 have bk:(e.k==4)=false:=by simpa using H
 replace ba:=hd' ba;have Y:WB p e=true->R=0/\∀ W w',jW w W->JgA B W jb s pb sl J->Only (atP pb) W w'->RowP w' pb (J.ps.set i {p with asks:=false})->Left B w w' jb s pb sl T:=fun ha=>by rw[jP ha]at j;refine⟨by rw[hR,j],fun W w' hb hj ho hr=>m _ _ hb ?_⟩;rw[q,j];exact⟨⟨sl,hj.setP (by rw[List.length_set]) hr ho,fun k e=>.inl e⟩,ho.mono' fun k e=>.inr (.inl e)⟩
 have V:WB p e=false->R=4/\∀ W,jW w W->JgA B W jb s pb sl J->Left B w W jb s pb sl T:=fun ha=>by rw[jN (by rw[ha];decide)]at j;refine⟨by rw[hR,j],fun W hb hj=>?_⟩;rw[q,j];exact⟨⟨sl,hj,fun k e=>.inl e⟩,Only.of_below hb⟩
 have b6:Hid (∀ X,JgA B X jb s pb sl J->RowP X pb J.ps/\PtAt X pb o p):=hd' fun X hX=>⟨hX.row bi,ho.out ▸ (((hX.row bi).pt i I).KE hp)⟩;have b7:Hid (∀ X,RowP X pb J.ps->RowP (X.setCell ⟨pb,o+2,.none⟩ (.bool false)) pb (J.ps.set i {p with asks:=false})):=hd' fun X hX=>by rw[ho];exact hX.set i 2 (.bool false) {p with asks:=false} I (by omega) (by rw[hp];rfl)
 replace b:=hd' b;replace b0:=hd' b0;clear j m G hi N Z q hR;have b0:=b0.out;have b1:=S;go_in;go_upto_region 1 with fail;generalize w.alloc (.cells #[e.k,e.c,e.ok,e.oa,e.on,e.at',e.n,e.er] 68)=W at *;rw[<-D]at t1 ⊢;obtain⟨O,c0,c1,c2,c3,c4,c5,c6,c7,c8,c9,b5⟩:=S;have cb:=iA t1;clear D;rcases jB (WB p e) with U|U
 ·obtain⟨rfl,z⟩:=Y U;rw[U]at b3;clear V Y U;go_wp2_with (go_at_call 113;refine b.out.mono ?_;rintro r w1 ⟨rfl,C⟩;obtain rfl:=C.symm);refine(b3 _ b1).mono ?_;rintro r w2 ⟨rfl,b4⟩;have bc:=hJ.below b4;obtain⟨b9,bg⟩:=b6 _ bc;have q2:=bg.c2;have qf:=bg.fr;have bf:=hd' (z w2 _ (F.trans (b4.mono F.size)) bc ((Only.refl (atP pb) w2).setCell (p:=⟨pb,o+2,.none⟩) (.inl (show atP pb pb from rfl)) (.bool false)) (b7 _ b9));clear b9 bg z b7 b6 bc b1;go_wp2;go_ret;exact⟨rfl,bf.out⟩
 obtain⟨rfl,z⟩:=V U;rw[U]at b3;clear V Y U;go_wp2_with (go_at_call 113;refine b.out.mono ?_;rintro r w1 ⟨rfl,C⟩;obtain rfl:=C.symm);refine(b3 _ b1).mono ?_;rintro r w2 ⟨rfl,b4⟩;have bf:=hd' (z w2 (F.trans (b4.mono F.size)) (hJ.below b4));clear z b7 b6 b1;go_wp2;go_ret;exact⟨rfl,bf.out⟩
end Go.Proofs.YtmmbicppdjgbmaaGreat

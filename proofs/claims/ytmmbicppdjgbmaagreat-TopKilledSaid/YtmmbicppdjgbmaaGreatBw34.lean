/- Lemmas for the claim. -/
import Derived.Test.YtmmbicppdjgbmaaGreatBw31

import Derived.Test.YtmmbicppdjgbmaaGreatBw33

set_option linter.all false
set_option maxHeartbeats 4000000
set_option maxRecDepth 100000
namespace Go.Proofs.YtmmbicppdjgbmaaGreat

attribute [local go_sem] GB

section

open Go.RowKit

attribute [local go_sem ↓] Go.wp_at_zero Go.wp_at_succ

theorem z8b{F:Nat->Prop}{w:World}{v:Value}{s:Sh}{cl:Int}{j:Jb}(h:JbO F w v s cl j):∃ T x,v= .iface T x:=by
 cases j<;>(obtain⟨q,e,_⟩:=h;exact⟨_,_,e⟩)
structure II (F:Nat->Prop) (q:Nat) (w w':World) (r:Ending) (s:Sh) (k:Kl) (o:Op3):Prop where
 ret:∃ v,r= .returned (.tuple #[v,.int .i64 (k.invoke s o).2.2])/\w'.ownsRow w.heap.size 68 8 v (k.invoke s o).2.1.length ((k.invoke s o).2.1.flatMap fun e=> e.cells.toList)
 kl:KlO (grow F w w') w' q s (k.invoke s o).1
 only:Only F w w'
 kl0:(k.invoke s o).1.job=none->KlO F w' q s (k.invoke s o).1
theorem JW{F:Nat->Prop}{q:Nat}{s:Sh}{k:Kl}{o:Op3}{w:World}(h:KlO F w q s k)(i:k.rests=false\/(k.rests=true/\(o.k<1\/4<o.k))):
  Calls Tryz.prog 32 #[some q,.agg #[o.k,o.a,o.n]] w fun r w'=>II F q w w' r s k o:=by
 obtain⟨ok,oa,on⟩:=o;dsimp only at i ⊢;have z:=(Below.refl w.heap.size w).alloc lr (.cells #[ok,oa,on] 34);have E:aA (w.alloc (.cells #[ok,oa,on] 34)) w.heap.size #[ok,oa,on] 34:=jA _ _;have l:=(h.below z).rests;have D:Hid (∀ W x,jW w W->k.invoke s ⟨ok,oa,on⟩=(k, [],x)->II F q w W (.returned (.tuple #[.slice none 0 0,.int .i64 x])) s k ⟨ok,oa,on⟩):=hd' fun W x hb j=>by
  refine⟨⟨_,by rw[j],?_⟩,?_,Only.of_below hb,fun _=>by rw[j];exact h.below hb⟩
  ·rw[j];exact DH _ _
  rw[j];exact(h.below hb).weak (fun b hb=>.inl hb) (EE h.lt hb.size)
 have J:∀ W:World,(binOp .eql 80 (.pointer (some ⟨q,0,.none⟩)) (.pointer none)).run Tryz.prog W= .ok (.bool false) W:=fun W=>by kernel_rfl
 have G:(k.rests=false/\k.invoke s ⟨ok,oa,on⟩=(k, [],4))\/(k.rests=true/\ok<1/\k.invoke s ⟨ok,oa,on⟩=(k, [],1))\/(k.rests=true/\decide (ok<1)=false/\4<ok/\k.invoke s ⟨ok,oa,on⟩=(k, [],1)):=by
  rcases i with i|⟨i,N⟩
  ·exact .inl ⟨i,by unfold Kl.invoke;rw[jP i]⟩
  have e:k.invoke s ⟨ok,oa,on⟩=(k, [],1):=by unfold Kl.invoke;rw[jN (by rw[i];decide),jP N]
  by_cases h1:ok<1
  ·exact .inr (.inl ⟨i,h1,e⟩)
  exact .inr (.inr ⟨i,jF h1,by omega,e⟩)
 clear i h;rcases G with⟨j,C⟩|⟨j,h1,C⟩|⟨j,h1,h2,C⟩;all_goals rw[j]at l;replace l:=hd' l;replace C:=hd' C;clear j;go_in;go_upto_region 1 with fail;generalize w.alloc (.cells #[ok,oa,on] 34)=X at *;obtain⟨H,M,y⟩:=hidv w.heap.size;rw[<-y]at E ⊢;clear y;have O:H<X.heap.size:=E.lt;have L:=E.cell;go_wp2_with (go_at_call 65;(with_reducible refine l.out.mono ?_);rintro r R ⟨rfl,I⟩;obtain rfl:=I.symm);go_returns;exact D _ _ z C.out
theorem z4b{F:Nat->Prop}{q:Nat}{s:Sh}{k:Kl}{o:Op3}{w:World}(h:KlO F w q s k)(hj:k.job=none)(hk:1<=o.k/\o.k<=4):
  Calls Tryz.prog 32 #[some q,.agg #[o.k,o.a,o.n]] w fun r w'=>II F q w w' r s k o:=by
 have cb:k.rests=true:=by unfold Kl.rests;rw[hj];rfl
 have y:k.invoke s o=if vD s k.c o.k o.a o.n=true then({k with op:=o,told:=false,steps:=0}, [NA k.c o,RA k.c o 0 (WC s k.c o.k o.a o.n)],0) else({k with op:=o,told:=false,steps:=0,job:=some (iC s k.c k.first o.k o.a o.n)}, [NA k.c o],0):=by unfold Kl.invoke;rw[jN (by rw[cb];decide),jN (by omega)]
 have b9:=(Below.refl w.heap.size w).alloc lr (.cells #[o.k,o.a,o.n] 34);have hH:aA (w.alloc (.cells #[o.k,o.a,o.n] 34)) w.heap.size #[o.k,o.a,o.n] 34:=jA _ _;have bg:=(h.below b9).rests;rw[cb]at bg;replace bg:=hd' bg;have ev:∀ W:World,(binOp .eql 80 (.pointer (some ⟨q,0,.none⟩)) (.pointer none)).run Tryz.prog W= .ok (.bool false) W:=fun W=>by kernel_rfl
 obtain⟨hF,hq,sp,sl,jv,G,bh,bj,N,hG,_,_⟩:=h;have hi:(!k.job.isSome)=true:=by rw[hj];rfl
 rw[hi]at bh;have cp:iF k= []:=by unfold iF;rw[hj]
 rw[cp]at bj;have J:∀ i,(i=q\/foot sp sl i)->i<w.heap.size:=fun i hi=>by rcases hi with rfl|hi;exact hF _ hq;exact hF i (N i hi).1
 have z:=fun W=>zyq s k.c o.k o.a o.n W hk;have E:=fun (W:World) (i:Bool) (jv:Value) (hr:aA W q (GB s {k with op:=o,told:=false,steps:=0} i jv (.pointer (some ⟨sp,0,.none⟩))) 132)=>zue (k:= {k with op:=o,told:=false,steps:=0}) hr hk
 have O:=hd' (fun (W:World) (v:Value) (hB:vD s k.c o.k o.a o.n=true) (hr:aA W q (GB s {k with op:=o,told:=false,steps:=0} true .nilIface (.pointer (some ⟨sp,0,.none⟩))) 132) (hs:SK 0 W sp (.slice none 0 0) 1 []) (ho:Only F w W) (hv:W.ownsRow w.heap.size 68 8 v 2 ((NA k.c o).cells.toList++(RA k.c o 0 (WC s k.c o.k o.a o.n)).cells.toList))=>(by
  rw[jP hB]at y
  have h0:KlO F W q s {k with op:=o,told:=false,steps:=0}:=by
   refine⟨fun i hi=>Nat.lt_of_lt_of_le (hF i hi) ho.size,hq,sp,.slice none 0 0,.nilIface,fun _=>False,?_,?_,fun i hi=>?_,fun i hi=>hi.elim,fun _=>rfl,fun x hx=>?_⟩
   ·have e:(!k.job.isSome)=true:=hi
    show aA W q (GB s _ (!k.job.isSome) _ _) _
    rw[e];exact hr
   ·have e:iF {k with op:=o,told:=false,steps:=0}= []:=by unfold iF;rw[show ({k with op:=o,told:=false,steps:=0}:Kl).job=none from hj]
    rw[e];exact hs
   ·rcases hi with rfl|hi
    ·exact⟨(N _ (.inl rfl)).1,(N _ (.inl rfl)).2⟩
    ·cases hi
   ·have hx:k.job=some x:=hx
    rw[hj]at hx;exact absurd hx (fun e=>by cases e)
  exact⟨⟨v,by rw[y],by rw[y];exact hv⟩,by rw[y];exact h0.weak (fun _ hi=>.inl hi) (EE hF ho.size),ho,fun _=>by rw[y];exact h0⟩:II F q w W (.returned (.tuple #[v,.int .i64 0])) s k o))
 have b1:=hd' (fun (W:World) (v jv D:Value) (H:Nat->Prop) (hB:vD s k.c o.k o.a o.n=false) (hr:aA W q (GB s {k with op:=o,told:=false,steps:=0} false jv (.pointer (some ⟨sp,0,.none⟩))) 132) (hs:SK 0 W sp D 1 [⟨o.k,0, [o.a,o.n,0,0,0,0,0,0]⟩]) (e9:∀ i,foot sp D i->foot sp sl i\/(w.heap.size<=i/\i<W.heap.size)) (hH:∀ i,H i->w.heap.size<=i/\i<W.heap.size) (hd:∀ i,H i->¬ foot sp D i) (hJ:JbO H W jv s k.c (iC s k.c k.first o.k o.a o.n)) (ho:Only F w W) (hv:W.ownsRow w.heap.size 68 8 v 1 (NA k.c o).cells.toList)=>(by
  rw[jN (by rw[hB];decide)]at y
  refine⟨⟨v,by rw[y],?_⟩,?_,ho,fun e=>by rw[y]at e;exact absurd e (fun e=>by cases e)⟩
  ·rw[y];exact hv
  ·rw[y]
   refine⟨EE hF ho.size,.inl hq,sp,D,jv,H,hr,hs,fun i hi=>?_,fun i hi=>⟨.inr (hH i hi),fun e=>by have:=J i (.inl e);have:=hH i hi;omega,hd i hi⟩,fun e=>(by cases e),fun x hx=>?_⟩
   ·rcases e9 i hi with l|l
    ·exact⟨.inl (N i l).1,(N i l).2⟩
    ·exact⟨.inr l,fun e=>by have:=J i (.inl e);omega⟩
   ·injection hx with hx
    subst hx
    exact hJ:II F q w W (.returned (.tuple #[v,.int .i64 0])) s k o))
 clear y cb hi cp hj;have C:=bh.below b9;have bp:=bj.below b9;generalize bx:vD s k.c o.k o.a o.n=ob at *;generalize WC s k.c o.k o.a o.n=oe at *;obtain⟨ok,oa,on⟩:=o;obtain⟨kc,kf,⟨f6,f5,f7⟩,kj,kt,ks⟩:=k;dsimp only at z E O b1 ⊢;generalize iC s kc kf ok oa on=jn at *;obtain⟨cf,sc,sm⟩:=s;dsimp only[GB]at C E O b1 z;clear bh bj bx;go_in;go_upto_region 1 with fail;generalize w.alloc (.cells #[ok,oa,on] 34)=X at *;obtain⟨H,ez,c6⟩:=hidv w.heap.size;rw[<-c6]at hH ⊢;have f0:w.heap.size<=H:=by omega
 clear c6;have lH:H<X.heap.size:=hH.lt;have cu:=hH.cell;have e4:decide (ok<1)=false:=jF (by have:1<=ok:=hk.1;omega);have e5:decide (4<ok)=false:=jF (by have:ok<=4:=hk.2;omega);have ep:q<X.heap.size:=C.lt;have fX:=DA C;have cv:=C.cell;have e7:H≠q:=fun e=>by have:=J q (.inl rfl);omega
 go_upto_region 8 with(go_at_call 65;(with_reducible refine bg.out.mono ?_);rintro r w1 ⟨rfl,ec⟩;obtain rfl:=ec.symm);have T:aA ((((((X.setCell ⟨q,5,.none⟩ (.int .i64 ok)).setCell ⟨q,6,.none⟩ (.int .i64 oa)).setCell ⟨q,7,.none⟩ (.int .i64 on)).setCell ⟨q,9,.none⟩ (.bool false)).setCell ⟨q,10,.none⟩ (.bool false)).setCell ⟨q,12,.none⟩ (.int .i64 0)) q #[cf,sc,sm,kc,kf,ok,oa,on,jv,.bool false,.bool false,some sp,.int .i64 0] 132:=((((((C.set 5 (.int .i64 ok)).set 6 (.int .i64 oa)).set 7 (.int .i64 on)).set 9 (.bool false)).set 10 (.bool false)).set 12 (.int .i64 0));have oq:Only (fun i=>i=q) X ((((((X.setCell ⟨q,5,.none⟩ (.int .i64 ok)).setCell ⟨q,6,.none⟩ (.int .i64 oa)).setCell ⟨q,7,.none⟩ (.int .i64 on)).setCell ⟨q,9,.none⟩ (.bool false)).setCell ⟨q,10,.none⟩ (.bool false)).setCell ⟨q,12,.none⟩ (.int .i64 0)):=Only.setCell (F:=fun i=>i=q) (Only.setCell (F:=fun i=>i=q) (Only.setCell (F:=fun i=>i=q) (Only.setCell (F:=fun i=>i=q) (Only.setCell (F:=fun i=>i=q) (Only.setCell (F:=fun i=>i=q) (Only.refl _ _) (.inl rfl) _) (.inl rfl) _) (.inl rfl) _) (.inl rfl) _) (.inl rfl) _) (.inl rfl) _;have bk:=oq.stk bp (fun i hi e=>(N i hi).2 e);have bu:=hH.only oq e7;have cc:Only (fun i=>i=q\/foot sp sl i) w ((((((X.setCell ⟨q,5,.none⟩ (.int .i64 ok)).setCell ⟨q,6,.none⟩ (.int .i64 oa)).setCell ⟨q,7,.none⟩ (.int .i64 on)).setCell ⟨q,9,.none⟩ (.bool false)).setCell ⟨q,10,.none⟩ (.bool false)).setCell ⟨q,12,.none⟩ (.int .i64 0)):=(Only.of_below b9).trans oq (fun i _ hi=>.inl hi);have eb:=oq.size;generalize ((((((X.setCell ⟨q,5,.none⟩ (.int .i64 ok)).setCell ⟨q,6,.none⟩ (.int .i64 oa)).setCell ⟨q,7,.none⟩ (.int .i64 on)).setCell ⟨q,9,.none⟩ (.bool false)).setCell ⟨q,10,.none⟩ (.bool false)).setCell ⟨q,12,.none⟩ (.int .i64 0))=w2 at *;clear C bp hH b9 lH cu e4 e5 ep fX cv bg oq;have ck:w.heap.size<=w2.heap.size:=cc.size;have ek:q<w2.heap.size:=T.lt;have eh:H<w2.heap.size:=bu.lt;have bA:Below w2.heap.size w2 (w2.alloc (.cells #[oa,on] 2)).drew:=(br.alloc lr _).drew;have hA:aA (w2.alloc (.cells #[oa,on] 2)).drew w2.heap.size #[oa,on] 2:=aA.drew (jA _ _)
 have S:jK 66 #[some sp,ok,.slice (some ⟨w2.heap.size,0,.none⟩) 2 2] (w2.alloc (.cells #[oa,on] 2)).drew fun e w'=>e= .returned (.bool true)/\Only (foot sp sl) (w2.alloc (.cells #[oa,on] 2)).drew w'/\∃ D,(∀ k,D.ownBlock=some k->sl.ownBlock=some k\/(w2.alloc (.cells #[oa,on] 2)).drew.heap.size<=k)/\SK 0 w' sp D 1 [⟨ok,0, [oa,on,0,0,0,0,0,0]⟩]:=zt0 (w:=(w2.alloc (.cells #[oa,on] 2)).drew) (code:=ok) (ao:=some ⟨w2.heap.size,0,.none⟩) (zs:= [oa,on]) (cap:=2) (bk.below bA) (by simp) (by simp) (Nat.zero_le _) (by decide) (fun a ha j v hv=>by
  injection ha with ha
  subst ha
  rw[zI,Nat.zero_add,hA.cell j]
  rcases j with _|_|j
  ·exact hv
  ·exact hv
  ·simp at hv) (fun e=>by cases e)
 replace S:=hd' S;have U:=T.drew;have b7:=bu.drew;have b3:=T.below bA;have c8:=bu.below bA;have hS:=hd' (fun (Y:World) (hr:aA Y q #[cf,sc,sm,kc,kf,ok,oa,on,jv,.bool false,.bool false,some sp,.int .i64 0] 132) (hb:aA Y H #[ok,oa,on] 34)=>(⟨hr.cell 11,hb.cell 0,hb.cell 1,hb.cell 2⟩:Y.cell? ⟨q,11,.none⟩=some (.pointer (some ⟨sp,0,.none⟩))/\Y.cell? ⟨H,0,.none⟩=some (.int .i64 ok)/\Y.cell? ⟨H,1,.none⟩=some (.int .i64 oa)/\Y.cell? ⟨H,2,.none⟩=some (.int .i64 on)));have bf:¬ foot sp sl q:=fun e=>(N q e).2 rfl;have ch:¬ foot sp sl H:=fun e=>by have:=J H (.inr e);omega
 go_region_held3 (fun Y=>Y.cell? ⟨q,11,.none⟩=some (.pointer (some ⟨sp,0,.none⟩))/\Y.cell? ⟨H,0,.none⟩=some (.int .i64 ok)/\Y.cell? ⟨H,1,.none⟩=some (.int .i64 oa)/\Y.cell? ⟨H,2,.none⟩=some (.int .i64 on))
  (first|exact hS _ U b7|exact hS _ b3 c8|exact hS _ (U.alloc _) (b7.alloc _)|exact hS _ L b8)
  (first|(go_at_call 66;(with_reducible refine S.out.mono ?_);rintro r w3 ⟨rfl,bz,D,c7,b4⟩;have L:=b3.only bz bf;have b8:=c8.only bz ch))
 have bq:Only (fun i=>i=q\/foot sp sl i) w w3:=(cc.trans (Only.of_below (F:=fun _=>False) bA) (fun _ _ l=>l.elim)).trans bz (fun i _ hi=>.inr hi);have cr:∀ i,foot sp D i->foot sp sl i\/(w.heap.size<=i/\i<w3.heap.size):=fun i hi=>by
  rcases hi with rfl|hi
  ·exact .inl (.inl rfl)
  rcases c7 i hi with l|l
  ·exact .inl (.inr l)
  have h1:=bA.size;exact .inr ⟨by omega,(b4.pE i hi).2⟩
 clear T bk bu cc eb ck ek eh bA hA S U b7 b3 c8 hS bz c7 ch bf;go_upto_region 9 with fail;have ck:w.heap.size<=w3.heap.size:=bq.size;have el:q<w3.heap.size:=L.lt;have ei:H<w3.heap.size:=b8.lt;have cx:=b8.cell;have cy:=L.cell;refine wret 6 ?_;repeat (go_big_quiet_step (fail))
 refine wqn fun w4 I=>?_;have bi:=L.below I;have bm:=b4.below I;have cg:=b8.below I;have cs:=bq.trans (Only.of_below (F:=fun _=>False) I) (fun _ _ l=>l.elim);have f1:=I.size;clear L b4 b8 bq el ei cx cy;go_upto_region 10 with fail;have bb:Below w4.heap.size w4 (w4.alloc (.cells (NA kc ⟨ok,oa,on⟩).cells 68)):=br.alloc lr _;have R:(w4.alloc (.cells (NA kc ⟨ok,oa,on⟩).cells 68)).ownsRow w.heap.size 68 8 (.slice (some ⟨w4.heap.size,0,.none⟩) 1 1) 1 (NA kc ⟨ok,oa,on⟩).cells.toList:=World.ownsRow_lit w4 (NA kc ⟨ok,oa,on⟩).cells 1 (by omega) (by decide) rfl;have M:=bi.below bb;have b5:=bm.below bb;have bv:=cg.below bb;have c4:=cs.trans (Only.of_below (F:=fun _=>False) bb) (fun _ _ l=>l.elim);have cq:w4.heap.size<(w4.alloc (.cells (NA kc ⟨ok,oa,on⟩).cells 68)).heap.size:=by rw[size_alloc];omega
 dsimp only[NA,Ev.cells]at M b5 bv c4 R cq;generalize w4.alloc (.cells #[.int .i64 2,kc,ok,oa,on,.int .i64 0,.int .i64 0,.int .i64 0] 68)=w5 at *;clear bi bm cg cs bb;obtain⟨B,e1,c5⟩:=hidv w4.heap.size;rw[<-c5]at R cq ⊢;have ey:w.heap.size<=B:=by omega
 have ex:w3.heap.size<=B:=by omega
 clear c5 e1;have eu:w.heap.size<=w5.heap.size:=c4.size;have b0:∀ i,foot sp D i->foot sp sl i\/(w.heap.size<=i/\i<B):=fun i hi=>by
  rcases cr i hi with l|l
  ·exact .inl l
  exact .inr ⟨l.1,by omega⟩
 have em:q<w5.heap.size:=M.lt;have ej:H<w5.heap.size:=bv.lt;have cz:=bv.cell;have e0:=M.cell;replace z:=hd' z;refine wre ?_;repeat (go_big_quiet_step (((go_at_call 67;exact xA (z _)))))
 refine wqn fun w6 I=>?_;have V:=M.below I;have bn:=b5.below I;have bs:=c4.trans (Only.of_below (F:=fun _=>False) I) (fun _ _ l=>l.elim);have b2:=ZD R I;have f2:=I.size;clear M b5 c4 R cz e0 em ej z bv;obtain⟨i0,e3,ed,ef,eg⟩:=info_parts OK;have bf:¬ foot sp D q:=fun e=>by
  rcases b0 q e with l|l
  ·exact(N q l).2 rfl
  have:=J q (.inl rfl);omega
 have e2:¬ foot sp D B:=fun e=>by
  rcases b0 B e with l|l
  ·have:=J B (.inr l);omega
  omega
 have e6:B≠q:=fun e=>by have:=J q (.inl rfl);omega
 cases ob;case true=>
  have b6:=WT (s:=⟨cf,sc,sm⟩) (k:=⟨kc,kf,⟨ok,oa,on⟩,kj,false,0⟩) (i:=false) (jv:=jv) oe 0 V bn bf;dsimp only[GB,Ev.val,Ev.cells,RA]at b6;replace b6:=hd' b6;have cl:w.heap.size<=w6.heap.size:=bs.size;go_wp2_with (first|(go_at_call 68;(with_reducible refine b6.out.mono ?_);rintro r w8 ⟨rfl,h8,e8,cd⟩;have bc:=PB b2 (fun i hi=>cd.block i (b2.lt i hi).2 (fun e=>by(have:B=i:=by injection hi);subst this;exact e.elim e6 e2));have cm:w.heap.size<=w8.heap.size:=Nat.le_trans cl cd.size)|(refine AG rfl (.tmp 71) (.tmp 75) 43 rfl w.heap.size 68 i0 _ 8 64 Tryz.underlying43 e3 ed ef eg rfl (by omega) _ 1 (NA kc ⟨ok,oa,on⟩).cells.toList rfl (ZD bc (br.alloc lr _)) _ 1 (RA kc ⟨ok,oa,on⟩ 0 oe).cells.toList rfl (evRd (RA kc ⟨ok,oa,on⟩ 0 oe) _) (QK _) (by simp only[maxLen];omega) (by omega) (by simp;omega) ?_;intro v9 w9 ca bw es;have c9:=bE ((Below.refl w.heap.size w8).alloc cm (.cells (RA kc ⟨ok,oa,on⟩ 0 oe).cells 68)) (ZD bc (br.alloc lr _)) (by simp;omega) bw));go_returns;have lq:=J q (.inl rfl)
  have er:Only (fun i=>i=q\/foot sp sl i) w w9:=RK (bs.trans cd (fun i hi l=>by
   rcases l with l|l
   ·exact .inl l
   ·rcases b0 i l with e|e
    ·exact .inr e
    ·omega)) c9
  exact O w9 v9 trivial (h8.belB c9 lq) ((iI c9).stk e8 (fun i hi e=>by
   rcases hi with rfl|hi
   ·have:=J _ (.inr (.inl rfl));omega
   ·cases hi)) (er.weak (fun i hi=>by
   rcases hi with rfl|hi
   ·exact hq
   ·exact(N i hi).1)) ca
 case false=>
  have ea:=hd' (E w6 false jv V);have l6:q<w6.heap.size:=V.lt;clear O E;go_wp2_with (first|(go_at_call 69;(with_reducible refine ea.out.mono ?_);rintro r w7 ⟨f4,rfl,cj,ba⟩;obtain⟨T2,x2,rfl⟩:=z8b cj;have Z:=V.below ba;have ew:=Z.cell;have zf:=DA Z;have l7:=Z.lt));go_returns;have lq:=J q (.inl rfl);have f3:=ba.size;have hW:(w7.setCell ⟨q,8,.none⟩ (.iface T2 x2)).heap.size=w7.heap.size:=size_set _ _ _;have oq:Only (fun i=>i=q) w7 (w7.setCell ⟨q,8,.none⟩ (.iface T2 x2)):=Only.setCell (F:=fun i=>i=q) (Only.refl _ _) (.inl rfl) _;refine b1 _ _ (.iface T2 x2) D (fun i=>w6.heap.size<=i/\i<w7.heap.size) trivial (Z.set 8 (.iface T2 x2)) (oq.stk (bn.below ba) (fun i hi e=>bf (e ▸ hi))) (fun i hi=>?_) (fun i hi=>⟨Nat.le_trans bs.size hi.1,by rw[hW];exact hi.2⟩) (fun i hi e=>?_) (cj.only oq (fun i hi e=>by omega)) ?_ ?_
  ·rcases b0 i hi with l|l
   ·exact .inl l
   exact .inr ⟨l.1,by omega⟩
  ·rcases b0 i e with l|l
   ·have:=J i (.inr l);have:=bs.size;omega
   omega
  ·refine((bs.trans (Only.of_below (F:=fun _=>False) ba) (fun _ _ l=>l.elim)).trans oq (fun i _ l=>.inl l)).weak (fun i hi=>?_);rcases hi with rfl|hi
   ·exact hq
   exact(N i hi).1
  exact tU (ZD b2 ba) oq (fun i hi e=>by omega)
theorem z3l{F:Nat->Prop}{q:Nat}{s:Sh}{k:Kl}{o:Op3}{w:World}(h:KlO F w q s k):
  Calls Tryz.prog 32 #[some q,.agg #[o.k,o.a,o.n]] w fun r w'=>II F q w w' r s k o:=by
 rcases hj:k.job with _|j
 ·have i:k.rests=true:=by unfold Kl.rests;rw[hj];rfl
  by_cases l:1<=o.k/\o.k<=4
  ·exact z4b h hj l
  exact JW h (.inr ⟨i,by omega⟩)
 have i:k.rests=false:=by unfold Kl.rests;rw[hj];rfl
 exact JW h (.inl i)
end

section

def KlAt (s:Sh) (c:Int) (σ:Ab) (k:Kl):Prop:=match k.job with
 | none=> qA σ c .no
 | some j=> JbAt s c σ j
structure WI (s:Sh) (σ:Ab) (d:Wd):Prop where
 rep:Rep s d.m σ
 gi:GI s σ
 li:∀ c k,d.kl c=some k->σ.st c= .live/\KlAt s c σ k
 nl:∀ c,σ.st c= .live->∃ k,d.kl c=some k
 un:∀ c,σ.st c= .unused\/σ.st c= .done->qA σ c .no/\∀ i,σ.mg c i= .none
 ow:∀ x a,σ.st x= .owned a->σ.st a≠ .unused/\(σ.st a= .live->∃ k t,d.kl a=some k/\k.job=some (.hei t)/\t.d=x/\t.done=false/\3<=t.next)
structure Chg (j j':Jb) (σ σ':Ab):Prop where
 gave:j.gave=false->j'.gave=true->(∃ f,j.fe=some f/\nH (feBl f) σ σ'/\f.next=1/\f.done=false)/\j'.done=false
 took:∀ b,j'.took=some b->Plus (jD b) σ σ'
 calm:(j.gave=true\/j'.gave=false)->j'.took=none->Calm σ σ'
 st:∀ x,σ'.st x= .unused↔σ.st x= .unused
theorem eT{σ:Ab}{x c:Int}(h:σ.st c= .live)(f:σ.st x≠ .live):x≠c:=fun e=>f (e ▸ h)
theorem KlAt.same{s:Sh}{c:Int}{σ σ':Ab}{k:Kl}(f:klOk s k)(hc:k.c=c)(h:KlAt s c σ k)(hs:Same c σ σ')(i:Later σ σ')(h3:∀ t,k.job=some (.hei t)->t.done=false->3<=t.next->σ'.st t.d= .owned c/\Same t.d σ σ'):KlAt s c σ' k:=by
 unfold KlAt at *;cases hj:k.job with
 |none=>rw[hj]at h;exact h.same hs;|some j=>rw[hj]at h;exact h.same (hc ▸ (f.jb j hj).1) hs i fun t e=>h3 t (by rw[hj,e])
theorem qH{s:Sh}{c:Int}{σ:Ab}{k:Kl}{t:Ad}(h:KlAt s c σ k)(f:k.job=some (.hei t)):qA σ c .no/\SH s σ c t:=by
 unfold KlAt at h;rw[f]at h;exact h
theorem z6d{s:Sh}{σ σ':Ab}{d:Wd}{n:Nat}{c:Int}{k k':Kl}{j:Jb}{L:Mem}{tr:List Ev}{lg:List Acc}(h:WI s σ d)(hd:wdOk s d n)(G:d.kl c=some k)(S:k.job=some j)(R:∀ t,j≠ .hei t)(U:Rep s L σ') (f:Kept s c σ σ') (I:KlAt s c σ' k'):WI s σ' ⟨L,d.l.set c.toNat (some k'),tr,lg⟩:=by
 have E:=(h.li c k G).1;have D:=d.AB (Wd.gC G).1 (Wd.gC G).2 (some k') L tr lg;have J:=Later.KE f.2.2;refine⟨U,f.1,fun x y o=>?_,fun x o=>?_,fun x o=>?_,fun x a o=>?_⟩
 ·rw[D]at o;split at o
  ·rename_i e;subst e;injection o with o;subst o;exact⟨(f.2.2 x).trans E,I⟩
  rename_i e;obtain⟨X,M⟩:=h.li x y o;refine⟨(f.2.2 x).trans X,M.same (hd.kl x y o).1 (hd.kl x y o).2.1 (f.2.1 x e) J fun t z C H=>?_⟩;have h3:=((qH M z).2.n3 C H).1;exact⟨(f.2.2 _).trans h3,f.2.1 _ (eT E (by rw[h3];simp))⟩
 ·rw[f.2.2]at o;rw[D];split
  ·exact⟨_,rfl⟩
  exact h.nl x o
 ·rw[f.2.2]at o;have r:x≠c:=eT E (by rcases o with e|e<;>rw[e]<;>simp);obtain⟨Z,u2⟩:=h.un x o;exact⟨Z.same (f.2.1 x r),fun i=>((f.2.1 x r).m i).trans (u2 i)⟩
 rw[f.2.2]at o;rw[f.2.2];obtain⟨o1,Y⟩:=h.ow x a o;refine⟨o1,fun T=>?_⟩;obtain⟨V,t,z,C,H,N,O⟩:=Y T;have r:a≠c:=fun e=>by subst e;rw[G]at z;injection z with z;subst z;rw[S]at C;injection C with C;exact R t C
 exact⟨V,t,by rw[D,jN r];exact z,C,H,N,O⟩
theorem zzn{s:Sh}{σ:Ab}{d:Int}(f:GI s σ)(h1:QB σ d s.p)(h2:fD σ d s.m)(h3:uD σ d s.p):qA σ d .no/\∀ i,σ.mg d i= .none:=by
 have o:=sV f h1;have r:=iW f h2;refine⟨⟨fun p=>⟨fun e=>absurd e (o p),fun e=>e.elim⟩,fun p g=>⟨fun e=>absurd e.2 (o g),fun e=>e.elim⟩,fun p i k=>⟨fun e=>?_,fun e=>?_⟩,fun p i k j e=>e.elim⟩,r⟩
 ·obtain⟨⟨b,l⟩,t⟩:=e;have:=DJ f l;exact absurd ⟨⟨b,l⟩,t⟩ (h3 p i k this.1.1 this.1.2)
 rcases e with e|⟨j,e⟩
 ·exact e.elim
 rw[r j]at e;cases e
theorem SY{s:Sh}{σ:Ab}{d:Wd}{n:Nat}{c:Int}{k:Kl}{t:Ad}{tr:List Ev}{lg:List Acc}(h:WI s σ d)(hd:wdOk s d n)(hk:d.kl c=some k)(hj:k.job=some (.hei t))(b8:adOk s t)(D:t.done=false)(k':Kl) (b0:k'.job=if (adA s t σ).1.done=true then none else some (.hei (adA s t σ).1)) (m':Mem) (hr:Rep s m' (adA s t σ).2):WI s (adA s t σ).2 ⟨m',d.l.set c.toNat (some k'),tr,lg⟩/\Calm σ (adA s t σ).2/\∀ x,(adA s t σ).2.st x= .unused↔σ.st x= .unused:=by
 obtain⟨O,bh⟩:=h.li c k hk;obtain⟨b3,I⟩:=qH bh hj;have C:=d.AB (Wd.gC hk).1 (Wd.gC hk).2 (some k') m' tr lg;obtain⟨c1,c2,c3,c4,c5,c6,c7,c8,c9,bj⟩:=b8.cl D;have J:=I.ne D;have M:=I.cl;have b4:∀ x,t.next<=2->σ.st x≠ .owned c:=fun x hn e=>by obtain⟨k2,S,G,z,H,e4,e5⟩:=(h.ow x c e).2 O;rw[hk]at G;injection G with G;subst G;rw[hj]at z;injection z with z;injection z with z;subst z;omega
 have b1:∀ x,σ.st x= .owned c->t.d=x:=fun x e=>by obtain⟨k2,S,G,z,H,e4,e5⟩:=(h.ow x c e).2 O;rw[hk]at G;injection G with G;subst G;rw[hj]at z;injection z with z;injection z with z;subst z;exact H
 have mk:∀ σ',(∀ t',t'=(adA s t σ).1->t'.done=false->SH s σ' c t')->qA σ' c .no->KlAt s c σ' k':=fun σ' h1 h2=>by
  unfold KlAt;rw[b0];rcases jB (adA s t σ).1.done with e|e
  ·rw[jP e];exact h2
  rw[jN (by rw[e];decide)];exact⟨h2,h1 _ rfl e⟩
 have R:(adA s t σ).2=σ->t.next<=2->(∀ t',t'=(adA s t σ).1->t'.done=false->SH s σ c t')->WI s (adA s t σ).2 ⟨m',d.l.set c.toNat (some k'),tr,lg⟩/\Calm σ (adA s t σ).2/\∀ x,(adA s t σ).2.st x= .unused↔σ.st x= .unused:=fun e0 G z=>by
  rw[e0]at hr ⊢;refine⟨⟨hr,h.gi,fun x y f=>?_,fun x f=>?_,h.un,fun x a f=>?_⟩,Calm.refl _,fun _=>.rfl⟩
  ·rw[C]at f;split at f
   ·rename_i e;subst e;injection f with f;subst f;exact⟨O,mk σ z b3⟩
   exact h.li x y f
  ·rw[C];split
   ·exact⟨_,rfl⟩
   exact h.nl x f
  obtain⟨o1,o2⟩:=h.ow x a f;refine⟨o1,fun X=>?_⟩;obtain⟨k2,S,H,e4,e5,e6,e7⟩:=o2 X;have L:a≠c:=fun e=>by subst e;exact b4 x G f
  exact⟨k2,S,by rw[C,jN L];exact H,e4,e5,e6,e7⟩
 have bi:OH 0=true:=by decide
 by_cases h0:t.next=0
 ·have Z:=LI (s:=s) (σ:=σ) D h0;refine R (by rw[Z]) (by omega) fun t' e e'=>?_;rw[Z]at e;have hf:=h.gi.tf t.d;cases f:σ.st t.d with
  |dead=>rw[f]at e;subst e;exact⟨M,fun _ e=>(by cases e),fun _ _=>.inl rfl,fun _ e=>by exfalso;have e:(3:Int)<=2:=e;omega,fun _=>J,fun _=>I.a0 (by omega)⟩
  |owned a=>rw[f]at e hf;subst e;exact⟨M,fun _ _=>⟨rfl,hf,(h.ow _ _ f).1⟩,fun _ e=>(by cases e),fun _ e=>by exfalso;have e:(3:Int)<=1:=e;omega,fun _=>J,fun _=>I.a0 (by omega)⟩
  |unused=>rw[f]at e;subst e;cases e'
  |live=>rw[f]at e;subst e;cases e'
  |done=>rw[f]at e;subst e;cases e'
 by_cases h1:t.next=1
 ·have Z:adA s t σ=(if σ.st t.who= .live then({t with next:=2}:Ad).fin 4 else {t with next:=2},σ):=by unfold adA;rw[jN (by rw[D];decide),jN h0,jP h1]
  refine R (by rw[Z]) (by omega) fun t' e e'=>?_;rw[Z]at e;obtain⟨w1,w2,w3⟩:=I.n1 D h1;by_cases f:σ.st t.who= .live
  ·have e:t'=({t with next:=2}:Ad).fin 4:=by rw[e];exact jP f
   subst e;cases e'
  have e:t'= {t with next:=2}:=by rw[e];exact jN f
  subst e;exact⟨M,fun _ e=>(by cases e),fun _ _=>.inr ⟨_,w1,w2,w3,f⟩,fun _ e=>by exfalso;have e:(3:Int)<=2:=e;omega,fun _=>J,fun _=>I.a0 (by omega)⟩
 by_cases h2:t.next=2
 ·by_cases hw:(σ.st t.d).enc=t.was
  ·have Z:adA s t σ=({t with next:=3},σ.stat t.d (.owned t.c)):=by unfold adA;rw[jN (by rw[D];decide),jN h0,jN h1,jP h2,jP hw]
   have T:σ.st t.d= .dead\/∃ o,σ.st t.d= .owned o/\σ.st o≠ .live:=by
    rcases I.n2 D h2 with e|⟨o,G,z,H,e4⟩
    ·exact .inl (TW.inj c1 (h.gi.tf _) (y:= .dead) trivial (hw.trans e))
    exact .inr ⟨o,TW.inj c1 (h.gi.tf _) z (hw.trans G),e4⟩
   have bc:σ.st t.d≠ .live:=by rcases T with e|⟨o,e,_⟩<;>rw[e]<;>simp
   have bg:σ.st t.d≠ .unused:=by rcases T with e|⟨o,e,_⟩<;>rw[e]<;>simp
   have U:σ.st t.d≠ .done:=by rcases T with e|⟨o,e,_⟩<;>rw[e]<;>simp
   have bf:∀ x,σ.st x= .live->σ.st t.d≠ .owned x:=fun x f e=>by
    rcases T with z|⟨o,z,H⟩
    ·rw[z]at e;cases e
    rw[z]at e;injection e with e;subst e;exact H f
   rw[Z]at hr b0 mk ⊢;rw[M]at hr ⊢;dsimp only at hr ⊢;have N:Later σ (σ.stat t.d (.owned c)):=by
    refine⟨fun x f=>?_,fun x f b7=>?_⟩
    ·by_cases e:x=t.d
     ·rw[e,eE];simp
     rw[ZA _ _ e];exact f
    by_cases e:x=t.d
    ·rw[e,eE];simp
    rw[ZA _ _ e];exact b7
   have j:(σ.stat t.d (.owned c)).st t.d= .owned c:=eE _ _ _;have b6:∀ x,(σ.stat t.d (.owned c)).st x= .unused↔σ.st x= .unused:=fun x=>by
    by_cases e:x=t.d
    ·subst e;rw[j];exact⟨fun e=>(by cases e),fun e=>absurd e bg⟩
    rw[ZA _ _ e]
   refine⟨⟨hr,h.gi.stat (M ▸ c2) c3,fun x y f=>?_,fun x f=>?_,fun x f=>?_,fun x a f=>?_⟩,AW,b6⟩
   ·rw[C]at f;split at f
    ·rename_i e;subst e;injection f with f;subst f;refine⟨(ZA _ _ J.symm).trans O,mk _ (fun t' e e'=>?_) (b3.same (Same.stat _ _))⟩;subst e;refine⟨M,fun _ e=>(by cases e),fun _ e=>(by cases e),fun _ _=>⟨j,?_⟩,fun _=>J,fun e=>by exfalso;have e:(3:Int)<=2:=e;omega⟩;rw[adD3 rfl];intro p g a b;have b:p<t.at':=b;rw[I.a0 (by omega)]at b;omega
    rename_i e;obtain⟨l1,l2⟩:=h.li x y f;have r:x≠t.d:=fun e=>bc (e ▸ l1);refine⟨(ZA _ _ r).trans l1,l2.same (hd.kl x y f).1 (hd.kl x y f).2.1 (Same.stat _ _) N fun S G z H=>?_⟩;have h3:=((qH l2 G).2.n3 z H).1;have:S.d≠t.d:=fun e=>by rw[e]at h3;exact bf x l1 h3
    exact⟨(ZA _ _ this).trans h3,Same.stat _ _⟩
   ·have r:x≠t.d:=fun e=>by rw[e,j]at f;cases f
    rw[ZA _ _ r]at f;rw[C];split
    ·exact⟨_,rfl⟩
    exact h.nl x f
   ·have r:x≠t.d:=fun e=>by rw[e,j]at f;rcases f with e|e<;>cases e
    rw[ZA _ _ r]at f;obtain⟨u1,u2⟩:=h.un x f;exact⟨u1.same (Same.stat _ _),u2⟩
   by_cases r:x=t.d
   ·subst r;rw[j]at f;injection f with f;subst f;refine⟨by rw[ZA _ _ J.symm,O];simp,fun _=>⟨k', {t with next:=3},by rw[C,jP rfl],?_,rfl,D,by show (3:Int)<=3;omega⟩⟩;rw[b0];exact jN (by dsimp only;rw[D];decide)
   rw[ZA _ _ r]at f;obtain⟨o1,o2⟩:=h.ow x a f;refine⟨N.un a o1,fun X=>?_⟩;have b5:a≠t.d:=fun e=>by rw[e,j]at X;cases X
   rw[ZA _ _ b5]at X;obtain⟨k2,S,H,e4,e5,e6,e7⟩:=o2 X;have L:a≠c:=fun e=>by subst e;exact b4 x (by omega) f
   exact⟨k2,S,by rw[C,jN L];exact H,e4,e5,e6,e7⟩
  have Z:adA s t σ=(({t with next:=3}:Ad).fin 4,σ):=by unfold adA;rw[jN (by rw[D];decide),jN h0,jN h1,jP h2,jN hw]
  refine R (by rw[Z]) (by omega) fun t' e e'=>?_;rw[Z]at e;subst e;cases e'
 obtain⟨Y,U⟩:=I.n3 D (by omega);have ba:∀ x,σ.st x= .live->x≠t.d:=fun x f e=>by rw[e,Y]at f;cases f
 by_cases bb:t.next=13
 ·have Z:adA s t σ=(t.fin 0,σ.stat t.d .done):=by unfold adA;rw[jN (by rw[D];decide)];iterate 13 rw[jN (by omega)]
  rw[EO bb]at U;obtain⟨x1,x2⟩:=zzn h.gi U.1 U.2.1 U.2.2;rw[Z]at hr b0 mk ⊢;dsimp only at hr ⊢;have j:(σ.stat t.d .done).st t.d= .done:=eE _ _ _;have N:Later σ (σ.stat t.d .done):=by
   refine⟨fun x f=>?_,fun x f b7=>?_⟩
   ·by_cases e:x=t.d
    ·rw[e,eE];simp
    rw[ZA _ _ e];exact f
   by_cases e:x=t.d
   ·rw[e,eE];simp
   rw[ZA _ _ e];exact b7
  have b6:∀ x,(σ.stat t.d .done).st x= .unused↔σ.st x= .unused:=fun x=>by
   by_cases e:x=t.d
   ·subst e;rw[j,Y];exact⟨fun e=>(by cases e),fun e=>(by cases e)⟩
   rw[ZA _ _ e]
  refine⟨⟨hr,h.gi.stat trivial c3,fun x y f=>?_,fun x f=>?_,fun x f=>?_,fun x a f=>?_⟩,AW,b6⟩
  ·rw[C]at f;split at f
   ·rename_i e;subst e;injection f with f;subst f;exact⟨(ZA _ _ J.symm).trans O,mk _ (fun t' e e'=>by subst e;cases e') (b3.same (Same.stat _ _))⟩
   rename_i e;obtain⟨l1,l2⟩:=h.li x y f;refine⟨(ZA _ _ (ba x l1)).trans l1,l2.same (hd.kl x y f).1 (hd.kl x y f).2.1 (Same.stat _ _) N fun S G z H=>?_⟩;have h3:=((qH l2 G).2.n3 z H).1;have:S.d≠t.d:=fun z=>by rw[z,Y]at h3;injection h3 with h3;exact e h3.symm
   exact⟨(ZA _ _ this).trans h3,Same.stat _ _⟩
  ·have r:x≠t.d:=fun e=>by rw[e,j]at f;cases f
   rw[ZA _ _ r]at f;rw[C];split
   ·exact⟨_,rfl⟩
   exact h.nl x f
  ·by_cases r:x=t.d
   ·subst r;exact⟨x1.same (Same.stat _ _),x2⟩
   rw[ZA _ _ r]at f;obtain⟨u1,u2⟩:=h.un x f;exact⟨u1.same (Same.stat _ _),u2⟩
  have r:x≠t.d:=fun e=>by rw[e,j]at f;cases f
  rw[ZA _ _ r]at f;obtain⟨o1,o2⟩:=h.ow x a f;refine⟨N.un a o1,fun X=>?_⟩;have b5:a≠t.d:=fun e=>by rw[e,j]at X;cases X
  rw[ZA _ _ b5]at X;obtain⟨k2,S,H,e4,e5,e6,e7⟩:=o2 X;have L:a≠c:=fun e=>by subst e;exact r (b1 x f).symm
  exact⟨k2,S,by rw[C,jN L];exact H,e4,e5,e6,e7⟩
 have V:=uY h.gi b8 D (by omega) U;have j:=V.kept.2.2;have N:=Later.KE j;have b2:∀ x,x≠t.d->Same x σ (adA s t σ).2:=V.kept.2.1;refine⟨⟨hr,V.kept.1,fun x y f=>?_,fun x f=>?_,fun x f=>?_,fun x a f=>?_⟩,V.calm,fun x=>by rw[j]⟩
 ·rw[C]at f;split at f
  ·rename_i e;subst e;injection f with f;subst f;refine⟨(j _).trans O,mk _ (fun t' e e'=>?_) (b3.same (b2 _ J.symm))⟩;subst e;have E:=V.on;exact⟨E.c.trans M,fun _ e=>by have:=E.nx;omega,fun _ e=>by have:=E.nx;omega,fun _ _=>⟨by rw[j,E.d];exact Y,E.dd⟩,fun _=>by rw[E.d];exact J,fun e=>by have:=E.nx;omega⟩
  rename_i e;obtain⟨l1,l2⟩:=h.li x y f;refine⟨(j x).trans l1,l2.same (hd.kl x y f).1 (hd.kl x y f).2.1 (b2 x (ba x l1)) N fun S G z H=>?_⟩;have h3:=((qH l2 G).2.n3 z H).1;have:S.d≠t.d:=fun z=>by rw[z,Y]at h3;injection h3 with h3;exact e h3.symm
  exact⟨(j _).trans h3,b2 _ this⟩
 ·rw[j]at f;rw[C];split
  ·exact⟨_,rfl⟩
  exact h.nl x f
 ·rw[j]at f;have r:x≠t.d:=fun e=>by rw[e,Y]at f;rcases f with e|e<;>cases e
  obtain⟨u1,u2⟩:=h.un x f;exact⟨u1.same (b2 x r),fun i=>((b2 x r).m i).trans (u2 i)⟩
 rw[j]at f;rw[j];obtain⟨o1,o2⟩:=h.ow x a f;refine⟨o1,fun X=>?_⟩;obtain⟨k2,S,H,e4,e5,e6,e7⟩:=o2 X;by_cases L:a=c
 ·subst L;have E:=V.on;have b9:(adA s t σ).1.done=false:=E.dn.trans D;refine⟨k',(adA s t σ).1,by rw[C,jP rfl],by rw[b0,jN (by rw[b9];decide)],E.d.trans (b1 x f),b9,E.nx.1⟩
 exact⟨k2,S,by rw[C,jN L];exact H,e4,e5,e6,e7⟩
theorem EI{s:Sh}{σ:Ab}{d:Wd}{n:Nat}{c:Int}{k:Kl}{j:Jb}(h:WI s σ d)(hd:wdOk s d n)(G:d.kl c=some k)(D:k.job=some j):WI s (j.QC s c σ).2 (d.step s c k).1/\Chg j (j.step s c d.m).1 σ (j.QC s c σ).2/\(j.step s c d.m).1=(j.QC s c σ).1:=by
 obtain⟨R,C,o⟩:=hd.kl c k G;obtain⟨O,E⟩:=h.li c k G;obtain⟨l,r,N,M⟩:=R.jb j D;rw[C]at l;have f:=RZ h.rep h.gi l o;have z:=KJ (m:=d.m) l o r h.rep.fi hd.fit;have J:k.step s d.m=(k.after (j.step s c d.m).1,(j.step s c d.m).2,k.tells (j.step s c d.m).1,0):=by unfold Kl.step;rw[D,C]
 unfold Wd.step;rw[J];dsimp only;have I:KlAt s c σ k=JbAt s c σ j:=by unfold KlAt;rw[D]
 rw[I]at E;by_cases H:∃ t,j= .hei t
 ·obtain⟨t,rfl⟩:=H;have y:(GA s t d.m).1=(adA s t σ).1:=by have:=f.1;injection this
  have L:=SY (tr:=d.tr++k.tells (.hei (GA s t d.m).1)) (lg:=if d.m.st<((Jb.hei t).step s c d.m).2.st then d.lg++[((Jb.hei t).step s c d.m).2.la] else d.lg) h hd G D l.1 r (k.after (.hei (GA s t d.m).1)) (by
   show (if (Jb.hei (GA s t d.m).1).done=true then none else some (Jb.hei (GA s t d.m).1))=_
   rw[y];rfl) _ f.2
  exact⟨L.1,⟨fun _ e=>(by cases e),fun b e=>(by cases e),fun _ _=>L.2.1,L.2.2⟩,f.1⟩
 have i:=tQ h.rep h.gi l o r E (fun a e=>H ⟨a,e⟩);refine⟨z6d h hd G D (fun a e=>H ⟨a,e⟩) f.2 i.kept ?_,?_,f.1⟩
 ·unfold KlAt;show (match (if (j.step s c d.m).1.done=true then none else some (j.step s c d.m).1:Option Jb) with|none=>_|some j=>_);have h1:=i.at';rw[<-f.1]at h1;rcases jB (j.step s c d.m).1.done with e|e
  ·rw[jP e];exact sY z.2.1 e h1
  rw[jN (by rw[e];decide)];exact h1
 have h1:=i.gave;have h2:=i.took;have h3:=i.calm;rw[<-f.1]at h1 h2 h3;exact⟨h1,h2,h3,fun x=>by rw[i.kept.2.2]⟩
variable {s:Sh} {σ:Ab} {d:Wd} {n:Nat} {c:Int} {k k':Kl}

theorem EM(h:WI s σ d)(z:d.kl c=some k)(C:KlAt s c σ k')(o:k'.job=k.job\/k.job=none)(tr:List Ev)(lg:List Acc):WI s σ ⟨d.m,d.l.set c.toNat (some k'),tr,lg⟩:=by
 have i:=d.AB (Wd.gC z).1 (Wd.gC z).2 (some k') d.m tr lg;refine⟨h.rep,h.gi,fun x y f=>?_,fun x f=>?_,h.un,fun x a f=>?_⟩
 ·rw[i]at f;split at f
  ·rename_i e;subst e;injection f with f;subst f;exact⟨(h.li x k z).1,C⟩
  exact h.li x y f
 ·rw[i];split
  ·exact⟨_,rfl⟩
  exact h.nl x f
 obtain⟨o1,J⟩:=h.ow x a f;refine⟨o1,fun H=>?_⟩;obtain⟨I,t,j,r,D,E,G⟩:=J H;rw[i];by_cases e:a=c
 ·subst e;rw[z]at j;injection j with j;subst j;rw[jP rfl];rcases o with o|o
  ·exact⟨k',t,rfl,o.trans r,D,E,G⟩
  rw[o]at r;cases r
 rw[jN e];exact⟨I,t,j,r,D,E,G⟩
theorem FI(h:WI s σ d)(hd:wdOk s d n)(x:Ch)(r:d.kl x.client=some k):WI s σ (d.ask s x k).1:=by
 obtain⟨z,l,o⟩:=hd.kl _ k r;obtain⟨y,f⟩:=h.li _ k r;unfold Wd.ask;refine EM h r ?_ ?_ _ _
 ·unfold Kl.invoke;split
  ·exact f
  rename_i t;have i:k.job=none:=by
   cases i:k.job
   ·rfl
   simp[Kl.rests,i]at t
  have j:qA σ x.client .no:=by unfold KlAt at f;rw[i]at f;exact f
  split
  ·exact f
  split
  ·show KlAt s x.client σ {k with op:=x.op,told:=false,steps:=0};unfold KlAt;dsimp only;rw[i];exact j
  unfold KlAt;dsimp only;rw[l];exact z5b h.rep.may o j _ _ _ _
 unfold Kl.invoke;split
 ·exact .inl rfl
 rename_i t;have i:k.job=none:=by
  cases i:k.job
  ·rfl
  simp[Kl.rests,i]at t
 exact .inr i
theorem BM(h:WI s σ d)(hd:wdOk s d n)(x:Ch)(hc:0<=x.client/\x.client<s.c)(hu:d.stat x.client=0):WI s (σ.stat x.client .live) (d.begin s x).1:=by
 have L:=h.rep.may;have hb:=LA.1 L;have C:=(ixs h.rep.fi).2.2.2 _ hc;have i:σ.st x.client= .unused:=by have h1:=h.rep.st _ hc;rw[C]at h1;unfold Wd.stat at hu;rw[h1]at hu;have h2:=(TW.read L (h.gi.tf x.client)).1;rw[hu]at h2;cases hx:σ.st x.client<;>rw[hx]at h2<;>simp[TW.kind]at h2
 have hi:x.client.toNat<d.l.length:=by rw[hd.len];omega
 unfold Wd.begin;rw[jP hu];dsimp only;have j:=d.AB hc.1 hi (some (SD x.client (Fl.TC x.bias s.p))) (d.m.put x.client (YA 1 0)) (d.tr++[BE x.client]) d.lg;have o:(σ.stat x.client .live).st x.client= .live:=eE _ _ _;have D:Rep s (d.m.put x.client (YA 1 0)) (σ.stat x.client .live):=h.rep.nM hc .live (by rw[C];rfl);have I:Later σ (σ.stat x.client .live):=by
  refine⟨fun y f=>?_,fun y f J=>?_⟩
  ·by_cases e:y=x.client
   ·rw[e,eE];simp
   rw[ZA _ _ e];exact f
  have e:y≠x.client:=fun e=>f (e ▸ i);rw[ZA _ _ e];exact J
 refine⟨D,h.gi.stat trivial hc,fun y z f=>?_,fun y f=>?_,fun y f=>?_,fun y a f=>?_⟩
 ·rw[j]at f;split at f
  ·rename_i e;subst e;injection f with f;subst f;exact⟨o,(h.un _ (.inl i)).1.same (Same.stat _ _)⟩
  rename_i e;obtain⟨T,M⟩:=h.li y z f;refine⟨(ZA _ _ e).trans T,M.same (hd.kl y z f).1 (hd.kl y z f).2.1 (Same.stat _ _) I fun t E G H=>?_⟩;have h3:=((qH M E).2.n3 G H).1;have:t.d≠x.client:=fun e=>by rw[e,i]at h3;cases h3
  exact⟨(ZA _ _ this).trans h3,Same.stat _ _⟩
 ·rw[j];split
  ·exact⟨_,rfl⟩
  rename_i e;rw[ZA _ _ e]at f;exact h.nl y f
 ·have e:y≠x.client:=fun e=>by rw[e,o]at f;rcases f with e|e<;>cases e
  rw[ZA _ _ e]at f;obtain⟨V,X⟩:=h.un y f;exact⟨V.same (Same.stat _ _),X⟩
 have e:y≠x.client:=fun e=>by rw[e,o]at f;cases f
 rw[ZA _ _ e]at f;obtain⟨o1,U⟩:=h.ow y a f;have r:a≠x.client:=fun e=>o1 (e ▸ i);rw[ZA _ _ r];refine⟨o1,fun R=>?_⟩;obtain⟨S,t,E,G,H,N,O⟩:=U R;exact⟨S,t,by rw[j,jN r];exact E,G,H,N,O⟩
theorem JJ(h:WI s σ d)(hd:wdOk s d n)(J:d.kl c=some k):WI s (σ.stat c .dead) (d.kill c).1:=by
 obtain⟨ho,S,hc⟩:=hd.kl _ k J;obtain⟨L,T⟩:=h.li _ k J;have I:=(ixs h.rep.fi).2.2.2 _ hc;have hi:c.toNat<d.l.length:=(Wd.gC J).2;unfold Wd.kill;dsimp only;have j:=d.AB hc.1 hi none (d.m.put c (YA 2 0)) (d.tr++[NE c]) d.lg;have i:(σ.stat c .dead).st c= .dead:=eE _ _ _;have C:Rep s (d.m.put c (YA 2 0)) (σ.stat c .dead):=h.rep.nM hc .dead (by rw[I];rfl);have r:Later σ (σ.stat c .dead):=by
  refine⟨fun y f=>?_,fun y f M=>?_⟩
  ·by_cases e:y=c
   ·rw[e,eE];simp
   rw[ZA _ _ e];exact f
  by_cases e:y=c
  ·rw[e,eE];simp
  rw[ZA _ _ e];exact M
 refine⟨C,h.gi.stat trivial hc,fun y z f=>?_,fun y f=>?_,fun y f=>?_,fun y a f=>?_⟩
 ·rw[j]at f;split at f
  ·cases f
  rename_i e;obtain⟨V,N⟩:=h.li y z f;refine⟨(ZA _ _ e).trans V,N.same (hd.kl y z f).1 (hd.kl y z f).2.1 (Same.stat _ _) r fun t E G H=>?_⟩;have h3:=((qH N E).2.n3 G H).1;have:t.d≠c:=fun e=>by rw[e,L]at h3;cases h3
  exact⟨(ZA _ _ this).trans h3,Same.stat _ _⟩
 ·have e:y≠c:=fun e=>by rw[e,i]at f;cases f
  rw[ZA _ _ e]at f;rw[j,jN e];exact h.nl y f
 ·have e:y≠c:=fun e=>by rw[e,i]at f;rcases f with e|e<;>cases e
  rw[ZA _ _ e]at f;obtain⟨Y,Z⟩:=h.un y f;exact⟨Y.same (Same.stat _ _),Z⟩
 have e:y≠c:=fun e=>by rw[e,i]at f;cases f
 rw[ZA _ _ e]at f;obtain⟨o1,X⟩:=h.ow y a f;refine⟨r.un a o1,fun D=>?_⟩;have o:a≠c:=fun e=>by rw[e,i]at D;cases D
 rw[ZA _ _ o]at D;obtain⟨U,t,E,G,H,O,R⟩:=X D;exact⟨U,t,by rw[j,jN o];exact E,G,H,O,R⟩
def jJ:Ab:=⟨fun _=> .empty,fun _ _=> .none,fun _ _=> .none,fun _=> .unused⟩
theorem xM(N:Nat)(a:Int):(oF N).get a=0:=by
 unfold Mem.get oF;dsimp only;rw[List.getD_eq_getElem?_getD,List.getElem?_replicate];split<;>rfl
theorem AQ(h:mayB s.p s.c s.m=true):WI s jJ (uB s):=by
 have h0:=OL h;have l:∀ c,qA jJ c .no:=fun c=>by
  refine⟨fun p=>⟨fun e=>?_,fun e=>e.elim⟩,fun p g=>⟨fun e=>?_,fun e=>e.elim⟩,fun p i k=>⟨fun e=>?_,fun e=>?_⟩,fun p i k j e=>e.elim⟩
  ·cases e
  ·cases e.1
  ·obtain⟨⟨b,e⟩,_⟩:=e;cases e
  rcases e with e|⟨j,e⟩
  ·exact e.elim
  cases e
 refine⟨⟨h0.fi,fun p o=>?_,fun p i o hi=>?_,fun c i hc hi=>?_,fun c hc=>?_⟩,?_,fun c k f=>?_,fun c e=>(by cases e),fun c _=>⟨l c,fun _=>rfl⟩,fun x a e=>(by cases e)⟩
 ·exact xM _ _
 ·exact xM _ _
 ·exact xM _ _
 ·exact(xM _ _).trans (show (0:Int)=YA 0 0 by decide)
 ·exact⟨fun _=>trivial,fun _ _=>trivial,fun _ _=>trivial,fun _=>trivial,fun c i e=>absurd rfl e,fun c e=>absurd rfl e,fun p i=>rfl,fun p h e=>(by cases e),fun p n e=>(by cases e),fun c j p i k e=>(by cases e),fun c j j' p i k k' e=>(by cases e)⟩
 unfold Wd.kl uB at f;dsimp only at f;rw[List.getD_eq_getElem?_getD,List.getElem?_replicate]at f;split at f
 ·split at f<;>simp at f
 cases f
end

section

open Go.RowKit

attribute [local go_sem ↓] Go.wp_at_zero Go.wp_at_succ

structure CW (B:Nat) (F:Nat->Prop) (W:World) (q p b:Nat) (s:Sh) (k:Kl) (m:Mem):Prop where
 kl:KlO F W q s k
 wd:oA W p b m
 fp:¬ F p
 fb:¬ F b
 lo:∀ i,F i->B<=i
 lp:B<=p
 lb:B<=b
 ok:klOk s k
 fi:Fits s m
section

variable {B:Nat} {F:Nat->Prop} {W W':World} {q p b:Nat} {s:Sh} {k:Kl} {m:Mem}

theorem CW.below(h:CW B F W q p b s k m)(hb:Below W.heap.size W W'):CW B F W' q p b s k m:=⟨h.kl.below hb,h.wd.below hb,h.fp,h.fb,h.lo,h.lp,h.lb,h.ok,h.fi⟩
theorem CW.only{G:Nat->Prop}(h:CW B F W q p b s k m)(j:Only G W W')(f:∀ i,G i->¬ F i/\i≠p/\i≠b):CW B F W' q p b s k m:=
 ⟨h.kl.only j (fun i hi l=>(f i l).1 hi),h.wd.only j (fun e=>(f p e).2.1 rfl) (fun e=>(f b e).2.2 rfl),h.fp,h.fb,h.lo,h.lp,h.lb,h.ok,h.fi⟩
theorem gH{p:Nat}(h:¬ F p)(f:p<W.heap.size):¬ grow F W W' p:=fun e=>by
 rcases e with e|e
 ·exact h e
 ·omega
structure nO (B:Nat) (F:Nat->Prop) (W W':World) (q p b:Nat) (s:Sh) (k:Kl) (m:Mem) (r:Ending):Prop where
 ret:∃ v,r= .returned (.tuple #[v,.int .i64 (k.step s m).2.2.2])/\W'.ownsRow W.heap.size 68 8 v (k.step s m).2.2.1.length ((k.step s m).2.2.1.flatMap fun e=> e.cells.toList)
 cw:CW B (grow F W W') W' q p b s (k.step s m).1 (k.step s m).2.1
 only:Only (fun i=> F i\/i=p\/i=b) W W'
 below:Below B W W'
theorem AY(h:CW B F W q p b s k m)(t:B<=W.heap.size)(hs:m.st<1000000000):
  Calls Tryz.prog 63 #[some q,some p] W fun r w'=>nO B F W w' q p b s k m r:=by
 have z:=h.fi.may;have hb:=h.fi.bd;have key:∀ r w',PJ F q p b W w' r s k m->klOk s (k.step s m).1->Fits s (k.step s m).2.1->nO B F W w' q p b s k m r:=fun r w' hS l y=>by
  refine⟨hS.ret,⟨hS.kl,hS.wds,gH h.fp h.wd.ltp,gH h.fb h.wd.ltb,fun i hi=>?_,h.lp,h.lb,l,y⟩,hS.only,hS.only.below t (fun i hi=>?_)⟩
  ·rcases hi with hi|hi
   ·exact h.lo i hi
   omega
  rcases hi with hi|rfl|rfl
  ·exact h.lo i hi
  ·exact h.lp
  exact h.lb
 rcases hj:k.job with _|j
 ·refine(zuq h.kl h.wd hj).mono fun r w' hS=>key r w' hS ?_ ?_
  ·have e:k.step s m=(k,m, [],2):=by unfold Kl.step;rw[hj]
   rw[e];exact h.ok
  have e:k.step s m=(k,m, [],2):=by unfold Kl.step;rw[hj]
  rw[e];exact h.fi
 have l:=nW h.ok hj h.fi h.wd.fit;have o:=HT h.ok (by omega) hj;refine(zty h.kl h.wd h.fp h.fb h.fi h.wd.fit hj (h.ok.jb j hj).1 (h.ok.jb j hj).2.1 h.ok.cl ⟨h.ok.st,by omega⟩ hs).mono fun r w' hS=>key r w' hS l.2 (l.1.fits h.fi)
structure ygo (B:Nat) (F:Nat->Prop) (W W':World) (q p b:Nat) (s:Sh) (k:Kl) (m:Mem) (o:Op3) (r:Ending):Prop where
 ret:∃ v,r= .returned (.tuple #[v,.int .i64 (k.invoke s o).2.2])/\W'.ownsRow W.heap.size 68 8 v (k.invoke s o).2.1.length ((k.invoke s o).2.1.flatMap fun e=> e.cells.toList)
 cw:CW B (grow F W W') W' q p b s (k.invoke s o).1 m
 only:Only F W W'
 below:Below B W W'
theorem yfi(o:Op3)(h:CW B F W q p b s k m)(j:B<=W.heap.size):
  Calls Tryz.prog 32 #[some q,.agg #[o.k,o.a,o.n]] W fun r w'=>ygo B F W w' q p b s k m o r:=by
 refine(z3l (o:=o) h.kl).mono fun r w' hS=>?_;refine⟨hS.ret,⟨hS.kl,h.wd.only hS.only h.fp h.fb,gH h.fp h.wd.ltp,gH h.fb h.wd.ltb,fun i hi=>?_,h.lp,h.lb,dX o h.fi.may h.ok,h.fi⟩,hS.only,hS.only.below j h.lo⟩;rcases hi with hi|hi
 ·exact h.lo i hi
 omega
end

theorem iQ{w:World}{B:Nat}{v:Value}{es:List Ev}(h:w.ownsRow B 68 8 v es.length (es.flatMap fun e=>e.cells.toList)):RdE w v es:=RdS.AC h
end

end Go.Proofs.YtmmbicppdjgbmaaGreat

/- Lemmas for the claim. -/
import Derived.Test.YtkilokkopbajkaaGreatBw28

import Derived.Test.YtkilokkopbajkaaGreatBw32

import Derived.Test.YtkilokkopbajkaaGreatBw35

set_option linter.all false
set_option maxHeartbeats 8000000
set_option maxRecDepth 100000
namespace Go.Proofs.YtkilokkopbajkaaGreat

attribute [local go_sem] PB

section

open Go.RowKit

attribute [local go_sem ↓] Go.wp_at_zero Go.wp_at_succ

theorem z8b{F:Nat->Prop}{w:World}{v:Value}{s:Sh}{cl:Int}{j:Jb}(h:JbO F w v s cl j):∃ T x,v= .iface T x:=by
 cases j<;>(obtain⟨q,e,_⟩:=h;exact⟨_,_,e⟩)
structure LI (F:Nat->Prop) (q:Nat) (w w':World) (r:Ending) (s:Sh) (k:Kl) (o:Op3):Prop where
 ret:∃ v,r= .returned (.tuple #[v,.int .i64 (k.invoke s o).2.2])/\w'.ownsRow w.heap.size 62 8 v (k.invoke s o).2.1.length ((k.invoke s o).2.1.flatMap fun e=> e.cells.toList)
 kl:KlO (grow F w w') w' q s (k.invoke s o).1
 only:Only F w w'
 kl0:(k.invoke s o).1.job=none->KlO F w' q s (k.invoke s o).1
theorem QW{F:Nat->Prop}{q:Nat}{s:Sh}{k:Kl}{o:Op3}{w:World}(h:KlO F w q s k)(i:k.rests=false\/(k.rests=true/\(o.k<1\/4<o.k))):
  Calls Tryz.prog 47 #[some q,.agg #[o.k,o.a,o.n]] w fun r w'=>LI F q w w' r s k o:=by
 obtain⟨ok,oa,on⟩:=o;dsimp only at i ⊢;have z:=(Below.refl w.heap.size w).alloc lr (.cells #[ok,oa,on] 32);have E:aA (w.alloc (.cells #[ok,oa,on] 32)) w.heap.size #[ok,oa,on] 32:=jA _ _;have l:=(h.below z).rests;have D:Hid (∀ W x,jW w W->k.invoke s ⟨ok,oa,on⟩=(k, [],x)->LI F q w W (.returned (.tuple #[.slice none 0 0,.int .i64 x])) s k ⟨ok,oa,on⟩):=hd' fun W x hb j=>by
  refine⟨⟨_,by rw[j],?_⟩,?_,Only.of_below hb,fun _=>by rw[j];exact h.below hb⟩
  ·rw[j];exact JH _ _
  rw[j];exact(h.below hb).weak (fun b hb=>.inl hb) (IE h.lt hb.size)
 have J:∀ W:World,(binOp .eql 57 (.pointer (some ⟨q,0,.none⟩)) (.pointer none)).run Tryz.prog W= .ok (.bool false) W:=fun W=>by kernel_rfl
 have G:(k.rests=false/\k.invoke s ⟨ok,oa,on⟩=(k, [],4))\/(k.rests=true/\ok<1/\k.invoke s ⟨ok,oa,on⟩=(k, [],1))\/(k.rests=true/\decide (ok<1)=false/\4<ok/\k.invoke s ⟨ok,oa,on⟩=(k, [],1)):=by
  rcases i with i|⟨i,N⟩
  ·exact .inl ⟨i,by unfold Kl.invoke;rw[jP i]⟩
  have e:k.invoke s ⟨ok,oa,on⟩=(k, [],1):=by unfold Kl.invoke;rw[jN (by rw[i];decide),jP N]
  by_cases h1:ok<1
  ·exact .inr (.inl ⟨i,h1,e⟩)
  exact .inr (.inr ⟨i,jF h1,by omega,e⟩)
 clear i h;rcases G with⟨j,C⟩|⟨j,h1,C⟩|⟨j,h1,h2,C⟩;all_goals rw[j]at l;replace l:=hd' l;replace C:=hd' C;clear j;go_in;go_upto_region 1 with fail;generalize w.alloc (.cells #[ok,oa,on] 32)=X at *;obtain⟨H,M,y⟩:=hidv w.heap.size;rw[<-y]at E ⊢;clear y;have O:H<X.heap.size:=E.lt;have L:=E.cell;go_wp2_with (go_at_call 66;(with_reducible refine l.out.mono ?_);rintro r R ⟨rfl,I⟩;obtain rfl:=I.symm);go_returns;exact D _ _ z C.out
theorem z4b{F:Nat->Prop}{q:Nat}{s:Sh}{k:Kl}{o:Op3}{w:World}(h:KlO F w q s k)(hj:k.job=none)(hk:1<=o.k/\o.k<=4):
  Calls Tryz.prog 47 #[some q,.agg #[o.k,o.a,o.n]] w fun r w'=>LI F q w w' r s k o:=by
 have cb:k.rests=true:=by unfold Kl.rests;rw[hj];rfl
 have y:k.invoke s o=if zD s k.c o.k o.a o.n=true then({k with op:=o,told:=false,steps:=0}, [NA k.c o,OA k.c o 0 (WC s k.c o.k o.a o.n)],0) else({k with op:=o,told:=false,steps:=0,job:=some (UB s k.c k.first o.k o.a o.n)}, [NA k.c o],0):=by unfold Kl.invoke;rw[jN (by rw[cb];decide),jN (by omega)]
 have b9:=(Below.refl w.heap.size w).alloc lr (.cells #[o.k,o.a,o.n] 32);have hH:aA (w.alloc (.cells #[o.k,o.a,o.n] 32)) w.heap.size #[o.k,o.a,o.n] 32:=jA _ _;have bg:=(h.below b9).rests;rw[cb]at bg;replace bg:=hd' bg;have ev:∀ W:World,(binOp .eql 57 (.pointer (some ⟨q,0,.none⟩)) (.pointer none)).run Tryz.prog W= .ok (.bool false) W:=fun W=>by kernel_rfl
 obtain⟨hF,hq,sp,sl,jv,G,bh,bj,N,hG,_,_⟩:=h;have hi:(!k.job.isSome)=true:=by rw[hj];rfl
 rw[hi]at bh;have cp:iF k= []:=by unfold iF;rw[hj]
 rw[cp]at bj;have J:∀ i,(i=q\/foot sp sl i)->i<w.heap.size:=fun i hi=>by rcases hi with rfl|hi;exact hF _ hq;exact hF i (N i hi).1
 have z:=fun W=>zyq s k.c o.k o.a o.n W hk;have E:=fun (W:World) (i:Bool) (jv:Value) (hr:aA W q (PB s {k with op:=o,told:=false,steps:=0} i jv (.pointer (some ⟨sp,0,.none⟩))) 161)=>zue (k:= {k with op:=o,told:=false,steps:=0}) hr hk
 have O:=hd' (fun (W:World) (v:Value) (hB:zD s k.c o.k o.a o.n=true) (hr:aA W q (PB s {k with op:=o,told:=false,steps:=0} true .nilIface (.pointer (some ⟨sp,0,.none⟩))) 161) (hs:SK 0 W sp (.slice none 0 0) 1 []) (ho:Only F w W) (hv:W.ownsRow w.heap.size 62 8 v 2 ((NA k.c o).cells.toList++(OA k.c o 0 (WC s k.c o.k o.a o.n)).cells.toList))=>(by
  rw[jP hB]at y
  have h0:KlO F W q s {k with op:=o,told:=false,steps:=0}:=by
   refine⟨fun i hi=>Nat.lt_of_lt_of_le (hF i hi) ho.size,hq,sp,.slice none 0 0,.nilIface,fun _=>False,?_,?_,fun i hi=>?_,fun i hi=>hi.elim,fun _=>rfl,fun x hx=>?_⟩
   ·have e:(!k.job.isSome)=true:=hi
    show aA W q (PB s _ (!k.job.isSome) _ _) _
    rw[e];exact hr
   ·have e:iF {k with op:=o,told:=false,steps:=0}= []:=by unfold iF;rw[show ({k with op:=o,told:=false,steps:=0}:Kl).job=none from hj]
    rw[e];exact hs
   ·rcases hi with rfl|hi
    ·exact⟨(N _ (.inl rfl)).1,(N _ (.inl rfl)).2⟩
    ·cases hi
   ·have hx:k.job=some x:=hx
    rw[hj]at hx;exact absurd hx (fun e=>by cases e)
  exact⟨⟨v,by rw[y],by rw[y];exact hv⟩,by rw[y];exact h0.weak (fun _ hi=>.inl hi) (IE hF ho.size),ho,fun _=>by rw[y];exact h0⟩:LI F q w W (.returned (.tuple #[v,.int .i64 0])) s k o))
 have b1:=hd' (fun (W:World) (v jv D:Value) (H:Nat->Prop) (hB:zD s k.c o.k o.a o.n=false) (hr:aA W q (PB s {k with op:=o,told:=false,steps:=0} false jv (.pointer (some ⟨sp,0,.none⟩))) 161) (hs:SK 0 W sp D 1 [⟨o.k,0, [o.a,o.n,0,0,0,0,0,0]⟩]) (e9:∀ i,foot sp D i->foot sp sl i\/(w.heap.size<=i/\i<W.heap.size)) (hH:∀ i,H i->w.heap.size<=i/\i<W.heap.size) (hd:∀ i,H i->¬ foot sp D i) (hJ:JbO H W jv s k.c (UB s k.c k.first o.k o.a o.n)) (ho:Only F w W) (hv:W.ownsRow w.heap.size 62 8 v 1 (NA k.c o).cells.toList)=>(by
  rw[jN (by rw[hB];decide)]at y
  refine⟨⟨v,by rw[y],?_⟩,?_,ho,fun e=>by rw[y]at e;exact absurd e (fun e=>by cases e)⟩
  ·rw[y];exact hv
  ·rw[y]
   refine⟨IE hF ho.size,.inl hq,sp,D,jv,H,hr,hs,fun i hi=>?_,fun i hi=>⟨.inr (hH i hi),fun e=>by have:=J i (.inl e);have:=hH i hi;omega,hd i hi⟩,fun e=>(by cases e),fun x hx=>?_⟩
   ·rcases e9 i hi with l|l
    ·exact⟨.inl (N i l).1,(N i l).2⟩
    ·exact⟨.inr l,fun e=>by have:=J i (.inl e);omega⟩
   ·injection hx with hx
    subst hx
    exact hJ:LI F q w W (.returned (.tuple #[v,.int .i64 0])) s k o))
 clear y cb hi cp hj;have C:=bh.below b9;have bp:=bj.below b9;generalize bx:zD s k.c o.k o.a o.n=ob at *;generalize WC s k.c o.k o.a o.n=oe at *;obtain⟨ok,oa,on⟩:=o;obtain⟨kc,kf,⟨f6,f5,f7⟩,kj,kt,ks⟩:=k;dsimp only at z E O b1 ⊢;generalize UB s kc kf ok oa on=jn at *;obtain⟨cf,sc,sm⟩:=s;dsimp only[PB]at C E O b1 z;clear bh bj bx;go_in;go_upto_region 1 with fail;generalize w.alloc (.cells #[ok,oa,on] 32)=X at *;obtain⟨H,ez,c6⟩:=hidv w.heap.size;rw[<-c6]at hH ⊢;have f0:w.heap.size<=H:=by omega
 clear c6;have lH:H<X.heap.size:=hH.lt;have cu:=hH.cell;have e4:decide (ok<1)=false:=jF (by have:1<=ok:=hk.1;omega);have e5:decide (4<ok)=false:=jF (by have:ok<=4:=hk.2;omega);have ep:q<X.heap.size:=C.lt;have fX:=GA C;have cv:=C.cell;have e7:H≠q:=fun e=>by have:=J q (.inl rfl);omega
 go_upto_region 8 with(go_at_call 66;(with_reducible refine bg.out.mono ?_);rintro r w1 ⟨rfl,ec⟩;obtain rfl:=ec.symm);have T:aA ((((((X.setCell ⟨q,5,.none⟩ (.int .i64 ok)).setCell ⟨q,6,.none⟩ (.int .i64 oa)).setCell ⟨q,7,.none⟩ (.int .i64 on)).setCell ⟨q,9,.none⟩ (.bool false)).setCell ⟨q,10,.none⟩ (.bool false)).setCell ⟨q,12,.none⟩ (.int .i64 0)) q #[cf,sc,sm,kc,kf,ok,oa,on,jv,.bool false,.bool false,some sp,.int .i64 0] 161:=((((((C.set 5 (.int .i64 ok)).set 6 (.int .i64 oa)).set 7 (.int .i64 on)).set 9 (.bool false)).set 10 (.bool false)).set 12 (.int .i64 0));have oq:Only (fun i=>i=q) X ((((((X.setCell ⟨q,5,.none⟩ (.int .i64 ok)).setCell ⟨q,6,.none⟩ (.int .i64 oa)).setCell ⟨q,7,.none⟩ (.int .i64 on)).setCell ⟨q,9,.none⟩ (.bool false)).setCell ⟨q,10,.none⟩ (.bool false)).setCell ⟨q,12,.none⟩ (.int .i64 0)):=Only.setCell (F:=fun i=>i=q) (Only.setCell (F:=fun i=>i=q) (Only.setCell (F:=fun i=>i=q) (Only.setCell (F:=fun i=>i=q) (Only.setCell (F:=fun i=>i=q) (Only.setCell (F:=fun i=>i=q) (Only.refl _ _) (.inl rfl) _) (.inl rfl) _) (.inl rfl) _) (.inl rfl) _) (.inl rfl) _) (.inl rfl) _;have bk:=oq.stk bp (fun i hi e=>(N i hi).2 e);have bu:=hH.only oq e7;have cc:Only (fun i=>i=q\/foot sp sl i) w ((((((X.setCell ⟨q,5,.none⟩ (.int .i64 ok)).setCell ⟨q,6,.none⟩ (.int .i64 oa)).setCell ⟨q,7,.none⟩ (.int .i64 on)).setCell ⟨q,9,.none⟩ (.bool false)).setCell ⟨q,10,.none⟩ (.bool false)).setCell ⟨q,12,.none⟩ (.int .i64 0)):=(Only.of_below b9).trans oq (fun i _ hi=>.inl hi);have eb:=oq.size;generalize ((((((X.setCell ⟨q,5,.none⟩ (.int .i64 ok)).setCell ⟨q,6,.none⟩ (.int .i64 oa)).setCell ⟨q,7,.none⟩ (.int .i64 on)).setCell ⟨q,9,.none⟩ (.bool false)).setCell ⟨q,10,.none⟩ (.bool false)).setCell ⟨q,12,.none⟩ (.int .i64 0))=w2 at *;clear C bp hH b9 lH cu e4 e5 ep fX cv bg oq;have ck:w.heap.size<=w2.heap.size:=cc.size;have ek:q<w2.heap.size:=T.lt;have eh:H<w2.heap.size:=bu.lt;have bA:Below w2.heap.size w2 (w2.alloc (.cells #[oa,on] 2)).drew:=(br.alloc lr _).drew;have hA:aA (w2.alloc (.cells #[oa,on] 2)).drew w2.heap.size #[oa,on] 2:=aA.drew (jA _ _)
 have S:jK 95 #[some sp,ok,.slice (some ⟨w2.heap.size,0,.none⟩) 2 2] (w2.alloc (.cells #[oa,on] 2)).drew fun e w'=>e= .returned (.bool true)/\Only (foot sp sl) (w2.alloc (.cells #[oa,on] 2)).drew w'/\∃ D,(∀ k,D.ownBlock=some k->sl.ownBlock=some k\/(w2.alloc (.cells #[oa,on] 2)).drew.heap.size<=k)/\SK 0 w' sp D 1 [⟨ok,0, [oa,on,0,0,0,0,0,0]⟩]:=zt0 (w:=(w2.alloc (.cells #[oa,on] 2)).drew) (code:=ok) (ao:=some ⟨w2.heap.size,0,.none⟩) (zs:= [oa,on]) (cap:=2) (bk.below bA) (by simp) (by simp) (Nat.zero_le _) (by decide) (fun a ha j v hv=>by
  injection ha with ha
  subst ha
  rw[UP,Nat.zero_add,hA.cell j]
  rcases j with _|_|j
  ·exact hv
  ·exact hv
  ·simp at hv) (fun e=>by cases e)
 replace S:=hd' S;have U:=T.drew;have b7:=bu.drew;have b3:=T.below bA;have c8:=bu.below bA;have hS:=hd' (fun (Y:World) (hr:aA Y q #[cf,sc,sm,kc,kf,ok,oa,on,jv,.bool false,.bool false,some sp,.int .i64 0] 161) (hb:aA Y H #[ok,oa,on] 32)=>(⟨hr.cell 11,hb.cell 0,hb.cell 1,hb.cell 2⟩:Y.cell? ⟨q,11,.none⟩=some (.pointer (some ⟨sp,0,.none⟩))/\Y.cell? ⟨H,0,.none⟩=some (.int .i64 ok)/\Y.cell? ⟨H,1,.none⟩=some (.int .i64 oa)/\Y.cell? ⟨H,2,.none⟩=some (.int .i64 on)));have bf:¬ foot sp sl q:=fun e=>(N q e).2 rfl;have ch:¬ foot sp sl H:=fun e=>by have:=J H (.inr e);omega
 go_region_held3 (fun Y=>Y.cell? ⟨q,11,.none⟩=some (.pointer (some ⟨sp,0,.none⟩))/\Y.cell? ⟨H,0,.none⟩=some (.int .i64 ok)/\Y.cell? ⟨H,1,.none⟩=some (.int .i64 oa)/\Y.cell? ⟨H,2,.none⟩=some (.int .i64 on))
  (first|exact hS _ U b7|exact hS _ b3 c8|exact hS _ (U.alloc _) (b7.alloc _)|exact hS _ L b8)
  (first|(go_at_call 95;(with_reducible refine S.out.mono ?_);rintro r w3 ⟨rfl,bz,D,c7,b4⟩;have L:=b3.only bz bf;have b8:=c8.only bz ch))
 have bq:Only (fun i=>i=q\/foot sp sl i) w w3:=(cc.trans (Only.of_below (F:=fun _=>False) bA) (fun _ _ l=>l.elim)).trans bz (fun i _ hi=>.inr hi);have cr:∀ i,foot sp D i->foot sp sl i\/(w.heap.size<=i/\i<w3.heap.size):=fun i hi=>by
  rcases hi with rfl|hi
  ·exact .inl (.inl rfl)
  rcases c7 i hi with l|l
  ·exact .inl (.inr l)
  have h1:=bA.size;exact .inr ⟨by omega,(b4.lF i hi).2⟩
 clear T bk bu cc eb ck ek eh bA hA S U b7 b3 c8 hS bz c7 ch bf;go_upto_region 9 with fail;have ck:w.heap.size<=w3.heap.size:=bq.size;have el:q<w3.heap.size:=L.lt;have ei:H<w3.heap.size:=b8.lt;have cx:=b8.cell;have cy:=L.cell;refine wret 6 ?_;repeat (go_big_quiet_step (fail))
 refine wqn fun w4 I=>?_;have bi:=L.below I;have bm:=b4.below I;have cg:=b8.below I;have cs:=bq.trans (Only.of_below (F:=fun _=>False) I) (fun _ _ l=>l.elim);have f1:=I.size;clear L b4 b8 bq el ei cx cy;go_upto_region 10 with fail;have bb:Below w4.heap.size w4 (w4.alloc (.cells (NA kc ⟨ok,oa,on⟩).cells 62)):=br.alloc lr _;have R:(w4.alloc (.cells (NA kc ⟨ok,oa,on⟩).cells 62)).ownsRow w.heap.size 62 8 (.slice (some ⟨w4.heap.size,0,.none⟩) 1 1) 1 (NA kc ⟨ok,oa,on⟩).cells.toList:=World.ownsRow_lit w4 (NA kc ⟨ok,oa,on⟩).cells 1 (by omega) (by decide) rfl;have M:=bi.below bb;have b5:=bm.below bb;have bv:=cg.below bb;have c4:=cs.trans (Only.of_below (F:=fun _=>False) bb) (fun _ _ l=>l.elim);have cq:w4.heap.size<(w4.alloc (.cells (NA kc ⟨ok,oa,on⟩).cells 62)).heap.size:=by rw[size_alloc];omega
 dsimp only[NA,Ev.cells]at M b5 bv c4 R cq;generalize w4.alloc (.cells #[.int .i64 2,kc,ok,oa,on,.int .i64 0,.int .i64 0,.int .i64 0] 62)=w5 at *;clear bi bm cg cs bb;obtain⟨B,e1,c5⟩:=hidv w4.heap.size;rw[<-c5]at R cq ⊢;have ey:w.heap.size<=B:=by omega
 have ex:w3.heap.size<=B:=by omega
 clear c5 e1;have eu:w.heap.size<=w5.heap.size:=c4.size;have b0:∀ i,foot sp D i->foot sp sl i\/(w.heap.size<=i/\i<B):=fun i hi=>by
  rcases cr i hi with l|l
  ·exact .inl l
  exact .inr ⟨l.1,by omega⟩
 have em:q<w5.heap.size:=M.lt;have ej:H<w5.heap.size:=bv.lt;have cz:=bv.cell;have e0:=M.cell;replace z:=hd' z;refine wre ?_;repeat (go_big_quiet_step (((go_at_call 96;exact AA (z _)))))
 refine wqn fun w6 I=>?_;have V:=M.below I;have bn:=b5.below I;have bs:=c4.trans (Only.of_below (F:=fun _=>False) I) (fun _ _ l=>l.elim);have b2:=gE R I;have f2:=I.size;clear M b5 c4 R cz e0 em ej z bv;obtain⟨i0,e3,ed,ef,eg⟩:=info_parts VK;have bf:¬ foot sp D q:=fun e=>by
  rcases b0 q e with l|l
  ·exact(N q l).2 rfl
  have:=J q (.inl rfl);omega
 have e2:¬ foot sp D B:=fun e=>by
  rcases b0 B e with l|l
  ·have:=J B (.inr l);omega
  omega
 have e6:B≠q:=fun e=>by have:=J q (.inl rfl);omega
 cases ob;case true=>
  have b6:=YT (s:=⟨cf,sc,sm⟩) (k:=⟨kc,kf,⟨ok,oa,on⟩,kj,false,0⟩) (i:=false) (jv:=jv) oe 0 V bn bf;dsimp only[PB,Ev.val,Ev.cells,OA]at b6;replace b6:=hd' b6;have cl:w.heap.size<=w6.heap.size:=bs.size;go_wp2_with (first|(go_at_call 97;(with_reducible refine b6.out.mono ?_);rintro r w8 ⟨rfl,h8,e8,cd⟩;have bc:=bC b2 (fun i hi=>cd.block i (b2.lt i hi).2 (fun e=>by(have:B=i:=by injection hi);subst this;exact e.elim e6 e2));have cm:w.heap.size<=w8.heap.size:=Nat.le_trans cl cd.size)|(refine cH rfl (.tmp 71) (.tmp 75) 59 rfl w.heap.size 62 i0 _ 8 64 Tryz.underlying59 e3 ed ef eg rfl (by omega) _ 1 (NA kc ⟨ok,oa,on⟩).cells.toList rfl (gE bc (br.alloc lr _)) _ 1 (OA kc ⟨ok,oa,on⟩ 0 oe).cells.toList rfl (evRd (OA kc ⟨ok,oa,on⟩ 0 oe) _) (XK _) (by simp only[maxLen];omega) (by omega) (by simp;omega) ?_;intro v9 w9 ca bw es;have c9:=iE ((Below.refl w.heap.size w8).alloc cm (.cells (OA kc ⟨ok,oa,on⟩ 0 oe).cells 62)) (gE bc (br.alloc lr _)) (by simp;omega) bw));go_returns;have lq:=J q (.inl rfl)
  have er:Only (fun i=>i=q\/foot sp sl i) w w9:=YK (bs.trans cd (fun i hi l=>by
   rcases l with l|l
   ·exact .inl l
   ·rcases b0 i l with e|e
    ·exact .inr e
    ·omega)) c9
  exact O w9 v9 trivial (h8.belB c9 lq) ((nI c9).stk e8 (fun i hi e=>by
   rcases hi with rfl|hi
   ·have:=J _ (.inr (.inl rfl));omega
   ·cases hi)) (er.weak (fun i hi=>by
   rcases hi with rfl|hi
   ·exact hq
   ·exact(N i hi).1)) ca
 case false=>
  have ea:=hd' (E w6 false jv V);have l6:q<w6.heap.size:=V.lt;clear O E;go_wp2_with (first|(go_at_call 98;(with_reducible refine ea.out.mono ?_);rintro r w7 ⟨f4,rfl,cj,ba⟩;obtain⟨T2,x2,rfl⟩:=z8b cj;have Z:=V.below ba;have ew:=Z.cell;have zf:=GA Z;have l7:=Z.lt));go_returns;have lq:=J q (.inl rfl);have f3:=ba.size;have hW:(w7.setCell ⟨q,8,.none⟩ (.iface T2 x2)).heap.size=w7.heap.size:=size_set _ _ _;have oq:Only (fun i=>i=q) w7 (w7.setCell ⟨q,8,.none⟩ (.iface T2 x2)):=Only.setCell (F:=fun i=>i=q) (Only.refl _ _) (.inl rfl) _;refine b1 _ _ (.iface T2 x2) D (fun i=>w6.heap.size<=i/\i<w7.heap.size) trivial (Z.set 8 (.iface T2 x2)) (oq.stk (bn.below ba) (fun i hi e=>bf (e ▸ hi))) (fun i hi=>?_) (fun i hi=>⟨Nat.le_trans bs.size hi.1,by rw[hW];exact hi.2⟩) (fun i hi e=>?_) (cj.only oq (fun i hi e=>by omega)) ?_ ?_
  ·rcases b0 i hi with l|l
   ·exact .inl l
   exact .inr ⟨l.1,by omega⟩
  ·rcases b0 i e with l|l
   ·have:=J i (.inr l);have:=bs.size;omega
   omega
  ·refine((bs.trans (Only.of_below (F:=fun _=>False) ba) (fun _ _ l=>l.elim)).trans oq (fun i _ l=>.inl l)).weak (fun i hi=>?_);rcases hi with rfl|hi
   ·exact hq
   exact(N i hi).1
  exact uU (gE b2 ba) oq (fun i hi e=>by omega)
theorem z3l{F:Nat->Prop}{q:Nat}{s:Sh}{k:Kl}{o:Op3}{w:World}(h:KlO F w q s k):
  Calls Tryz.prog 47 #[some q,.agg #[o.k,o.a,o.n]] w fun r w'=>LI F q w w' r s k o:=by
 rcases hj:k.job with _|j
 ·have i:k.rests=true:=by unfold Kl.rests;rw[hj];rfl
  by_cases l:1<=o.k/\o.k<=4
  ·exact z4b h hj l
  exact QW h (.inr ⟨i,by omega⟩)
 have i:k.rests=false:=by unfold Kl.rests;rw[hj];rfl
 exact QW h (.inl i)
def NT (w w':World) (e:Ending) (s:Sh) (c:Int) (x:Nat):Prop:=Below w.heap.size w w'/\
 if zA s.p s.c s.m c < 0 then e= .returned (.pointer none) else ∃ q,e= .returned (.pointer (some ⟨q,0,.none⟩))/\KlO (fun i=> w.heap.size<=i/\i < w'.heap.size) w' q s (xE c (Fl.ZC x s.p))
theorem z0k(s:Sh)(c:Int)(x:Nat)(w:World)(hp: -9223372036854775808<=s.p/\s.p<=9223372036854775807):
  Calls Tryz.prog 91 #[.agg #[s.p,s.c,s.m],c,F64 x] w fun e w'=>NT w w' e s c x:=by
 have z:=fun W=>kC s.p s.c s.m c W;have D:=fun W=>z4a x s.p hp.1 hp.2 W;have L:=fun W=>zxv 1 W;unfold NT
 have I:=hd' (fun (Y W:World) (E S:Nat) (hb:Below w.heap.size w W) (hS:w.heap.size<=S) (hE:w.heap.size<=E) (R:E≠S) (M:aA W E (PB s (xE c (Fl.ZC x s.p)) true .nilIface (.pointer (some ⟨S,0,.none⟩))) 161) (hs:aA W S #[.slice none 0 0,.int .i64 1] 197)=>(by
  refine⟨fun i hi=>hi.2,⟨hE,M.lt⟩,S,.slice none 0 0,.nilIface,fun _=>False,M,⟨Nat.zero_le _,hs,World.ownsRow_nil _ _ _ _,by simp[Value.ownBlock],fun f hf=>by cases hf⟩,fun i hi=>?_,fun i hi=>hi.elim,fun _=>rfl,fun j hj=>by cases hj⟩
  rcases hi with rfl|hi
  ·exact⟨⟨hS,hs.lt⟩,fun e=>R e.symm⟩
  ·exact absurd hi (fun e=>by cases e):KlO (fun i=>w.heap.size<=i/\i<W.heap.size) W E s (xE c (Fl.ZC x s.p))))
 generalize zA s.p s.c s.m c=sx at *;generalize Fl.ZC x s.p=sh at *;obtain⟨sp,o,y⟩:=s;dsimp only[PB,xE,Op3.zero]at z D I ⊢;replace z:=hd' z;replace D:=hd' D;replace L:=hd' L;have J:=(Below.refl w.heap.size w).alloc lr (.cells #[sp,o,y] 23);have t0:aA (w.alloc (.cells #[sp,o,y] 23)) w.heap.size #[sp,o,y] 23:=jA _ _;go_in;go_upto_region 1 with fail;generalize w.alloc (.cells #[sp,o,y] 23)=X at *;obtain⟨H,b0,G⟩:=hidv w.heap.size;rw[<-G]at t0 ⊢;have b1:w.heap.size<=H:=by omega
 clear G;have lH:H<X.heap.size:=t0.lt;have O:=t0.cell;by_cases hs:sx<0
 ·go_wp2_with (go_at_call 44;(with_reducible refine(z _).mono ?_);rintro r l ⟨rfl,C⟩);go_returns;refine⟨xA J C,?_⟩;first|rfl|(rw[jP hs])
 have b3:decide (sx<0)=false:=jF hs;go_upto_region 3 with(go_at_call 44;(with_reducible refine(z _).mono ?_);rintro r l ⟨rfl,C⟩);have t1:=t0.below C;have n:=xA J C;have N:=t1.drew;have bd:=n.drew;clear lH O J t0;have lH:H<l.drew.heap.size:=N.lt;have hS:=hd' (fun (Y:World) (M:aA Y H #[sp,o,y] 23)=>(⟨M.cell 0,M.cell 1,M.cell 2⟩:Y.cell? ⟨H,0,.none⟩=some (.int .i64 sp)/\Y.cell? ⟨H,1,.none⟩=some (.int .i64 o)/\Y.cell? ⟨H,2,.none⟩=some (.int .i64 y)))
 go_region_held3 (fun Y=>Y.cell? ⟨H,0,.none⟩=some (.int .i64 sp)/\Y.cell? ⟨H,1,.none⟩=some (.int .i64 o)/\Y.cell? ⟨H,2,.none⟩=some (.int .i64 y))
  (first|exact hS _ N|exact hS _ (N.alloc _)|exact hS _ ((N.alloc _).alloc _))
  (first|(go_at_call 120;refine(D _).mono ?_;rintro r w2 ⟨rfl,T⟩;obtain rfl:=T.symm)|(go_at_call 121;refine(L _).mono ?_;rintro r w3 ⟨rfl,U⟩;obtain rfl:=U.symm))
 all_goals go_wp2_with fail
 go_returns;have Z:(l.alloc (.cells #[.slice none 0 0,.int .i64 1] 197)).heap.size=l.heap.size+1:=size_alloc _ _;have r1:aA ((l.alloc (.cells #[.slice none 0 0,.int .i64 1] 197)).alloc (.cells #[sp,o,y,c,sh,.int .i64 0,.int .i64 0,.int .i64 0,.nilIface,.bool true,.bool false,some l.heap.size,.int .i64 0] 161)) l.heap.size #[.slice none 0 0,.int .i64 1] 197:=aA.alloc (jA _ _) _;have r2:aA ((l.alloc (.cells #[.slice none 0 0,.int .i64 1] 197)).alloc (.cells #[sp,o,y,c,sh,.int .i64 0,.int .i64 0,.int .i64 0,.nilIface,.bool true,.bool false,some l.heap.size,.int .i64 0] 161)) (l.heap.size+1) #[sp,o,y,c,sh,.int .i64 0,.int .i64 0,.int .i64 0,.nilIface,.bool true,.bool false,some l.heap.size,.int .i64 0] 161:=by have h:=jA (l.alloc (.cells #[.slice none 0 0,.int .i64 1] 197)) (.cells #[sp,o,y,c,sh,.int .i64 0,.int .i64 0,.int .i64 0,.nilIface,.bool true,.bool false,some l.heap.size,.int .i64 0] 161);rw[Z]at h;exact h
 have V:Below w.heap.size w ((l.alloc (.cells #[.slice none 0 0,.int .i64 1] 197)).alloc (.cells #[sp,o,y,c,sh,.int .i64 0,.int .i64 0,.int .i64 0,.nilIface,.bool true,.bool false,some l.heap.size,.int .i64 0] 161)).drew:=((n.alloc n.size (.cells #[.slice none 0 0,.int .i64 1] 197)).alloc (by rw[Z];have:=n.size;omega) (.cells #[sp,o,y,c,sh,.int .i64 0,.int .i64 0,.int .i64 0,.nilIface,.bool true,.bool false,some l.heap.size,.int .i64 0] 161)).drew;refine⟨V,?_⟩;try rw[jN hs]
 exact⟨_,rfl,I w _ (l.heap.size+1) l.heap.size V n.size (by have:=n.size;omega) (by omega) r2.drew r1.drew⟩
structure CW (B:Nat) (F:Nat->Prop) (W:World) (q p b:Nat) (s:Sh) (k:Kl) (m:Mem):Prop where
 kl:KlO F W q s k
 wd:oA W p b m
 fp:¬ F p
 fb:¬ F b
 lo:∀ i,F i->B<=i
 lp:B<=p
 lb:B<=b
 ok:klOk s k
 fi:Fits s m
section

variable {B:Nat} {F:Nat->Prop} {W W':World} {q p b:Nat} {s:Sh} {k:Kl} {m:Mem}

theorem CW.below(h:CW B F W q p b s k m)(hb:Below W.heap.size W W'):CW B F W' q p b s k m:=⟨h.kl.below hb,h.wd.below hb,h.fp,h.fb,h.lo,h.lp,h.lb,h.ok,h.fi⟩
theorem CW.only{G:Nat->Prop}(h:CW B F W q p b s k m)(j:Only G W W')(f:∀ i,G i->¬ F i/\i≠p/\i≠b):CW B F W' q p b s k m:=
 ⟨h.kl.only j (fun i hi l=>(f i l).1 hi),h.wd.only j (fun e=>(f p e).2.1 rfl) (fun e=>(f b e).2.2 rfl),h.fp,h.fb,h.lo,h.lp,h.lb,h.ok,h.fi⟩
theorem rH{p:Nat}(h:¬ F p)(f:p<W.heap.size):¬ grow F W W' p:=fun e=>by
 rcases e with e|e
 ·exact h e
 ·omega
structure gO (B:Nat) (F:Nat->Prop) (W W':World) (q p b:Nat) (s:Sh) (k:Kl) (m:Mem) (r:Ending):Prop where
 ret:∃ v,r= .returned (.tuple #[v,.int .i64 (k.step s m).2.2.2])/\W'.ownsRow W.heap.size 62 8 v (k.step s m).2.2.1.length ((k.step s m).2.2.1.flatMap fun e=> e.cells.toList)
 cw:CW B (grow F W W') W' q p b s (k.step s m).1 (k.step s m).2.1
 only:Only (fun i=> F i\/i=p\/i=b) W W'
 below:Below B W W'
theorem EY(h:CW B F W q p b s k m)(o:B<=W.heap.size)(hs:m.st<1000000000):
  Calls Tryz.prog 93 #[some q,some p] W fun r w'=>gO B F W w' q p b s k m r:=by
 have y:=h.fi.may;have hb:=h.fi.bd;have key:∀ r w',RJ F q p b W w' r s k m->klOk s (k.step s m).1->Fits s (k.step s m).2.1->gO B F W w' q p b s k m r:=fun r w' hS l t=>by
  refine⟨hS.ret,⟨hS.kl,hS.wds,rH h.fp h.wd.ltp,rH h.fb h.wd.ltb,fun i hi=>?_,h.lp,h.lb,l,t⟩,hS.only,hS.only.below o (fun i hi=>?_)⟩
  ·rcases hi with hi|hi
   ·exact h.lo i hi
   omega
  rcases hi with hi|rfl|rfl
  ·exact h.lo i hi
  ·exact h.lp
  exact h.lb
 rcases hj:k.job with _|j
 ·refine(zuq h.kl h.wd hj).mono fun r w' hS=>key r w' hS ?_ ?_
  ·have e:k.step s m=(k,m, [],2):=by unfold Kl.step;rw[hj]
   rw[e];exact h.ok
  have e:k.step s m=(k,m, [],2):=by unfold Kl.step;rw[hj]
  rw[e];exact h.fi
 have l:=rW h.ok hj h.fi h.wd.fit;have n:=KT h.ok (by omega) hj;refine(zty h.kl h.wd h.fp h.fb h.fi h.wd.fit hj (h.ok.jb j hj).1 (h.ok.jb j hj).2.1 h.ok.cl ⟨h.ok.st,by omega⟩ hs).mono fun r w' hS=>key r w' hS l.2 (l.1.fits h.fi)
structure ygo (B:Nat) (F:Nat->Prop) (W W':World) (q p b:Nat) (s:Sh) (k:Kl) (m:Mem) (o:Op3) (r:Ending):Prop where
 ret:∃ v,r= .returned (.tuple #[v,.int .i64 (k.invoke s o).2.2])/\W'.ownsRow W.heap.size 62 8 v (k.invoke s o).2.1.length ((k.invoke s o).2.1.flatMap fun e=> e.cells.toList)
 cw:CW B (grow F W W') W' q p b s (k.invoke s o).1 m
 only:Only F W W'
 below:Below B W W'
theorem yfi(o:Op3)(h:CW B F W q p b s k m)(j:B<=W.heap.size):
  Calls Tryz.prog 47 #[some q,.agg #[o.k,o.a,o.n]] W fun r w'=>ygo B F W w' q p b s k m o r:=by
 refine(z3l (o:=o) h.kl).mono fun r w' hS=>?_;refine⟨hS.ret,⟨hS.kl,h.wd.only hS.only h.fp h.fb,rH h.fp h.wd.ltp,rH h.fb h.wd.ltb,fun i hi=>?_,h.lp,h.lb,mX o h.fi.may h.ok,h.fi⟩,hS.only,hS.only.below j h.lo⟩;rcases hi with hi|hi
 ·exact h.lo i hi
 omega
end

theorem fQ{w:World}{B:Nat}{v:Value}{es:List Ev}(h:w.ownsRow B 62 8 v es.length (es.flatMap fun e=>e.cells.toList)):RdE w v es:=RdS.GC h
end

section

open Go.RowKit

attribute [local go_sem ↓] Go.wp_at_zero Go.wp_at_succ

theorem vN(k:Int)(w:World):
  Calls Tryz.prog 65 #[k] w fun e w'=>e= .returned (.int .i64 (qA k))/\w'=w:=by
 by_cases h:0<=k/\k<=3
 ·have:k=0\/k=1\/k=2\/k=3:=by omega
  rcases this with rfl|rfl|rfl|rfl <;>
  ·go_in;go_wp2;go_ret;exact⟨rfl,rfl⟩
 have i:qA k=0:=by rw[qA,jN (by omega),jN (by omega),jN (by omega),jN (by omega)]
 rw[i];have hc:k<0\/(0<=k/\4<=k):=by omega
 clear h i;rcases hc with hc|⟨hc,j⟩
 ·go_in;go_wp2;go_ret;exact⟨rfl,rfl⟩
 go_in;go_wp2;go_ret;exact⟨rfl,rfl⟩
theorem RQ(n:Int)(w:World):
  Calls Tryz.prog 58 #[n] w fun e w'=>e= .returned (.tuple #[.int .i64 (BB n),.bool (wi n 1 32)])/\w'=w:=by
 by_cases h:1<=n/\n<=32
 ·have h1:wi n 1 32=true:=IA.2 h;have l:=rQ n;have i:=fun k h0=>LX (k:=k) h h0;obtain⟨c,hc⟩:∃ c:Nat,BB n=c:=⟨(BB n).toNat,by omega⟩;rw[h1,hc];rw[hc]at l;simp only[hc]at i;clear hc;obtain⟨h2,h3⟩:=h;go_in;go_wp2_with fail;go_loopw [4] (fun y wr=>∃ k:Nat,k<=c/\y= .int .i64 k/\wr=w) (fun y _=>c-(intOf y).toNat);case atStart=>exact⟨0,Nat.zero_le _,rfl,by first|rfl|trivial⟩
  case round=>
   obtain⟨k,D,rfl,t⟩:=hrel;obtain rfl:=t.symm;have j:=i k (by omega) (by omega);clear i;by_cases C:k<c
   ·have hs:qA k<n:=j.2 (by omega);clear j;go_wp2_with (go_at_call 65;refine(vN _ _).mono ?_;rintro e w' ⟨rfl,r⟩;obtain rfl:=r.symm);exact⟨⟨k+1,by omega,by go_num,by first|rfl|trivial⟩,by simp[intOf];omega⟩
   have hs:¬ qA k<n:=fun h=>by have:=j.1 h;omega
   have o:k=c:=by omega
   subst o;clear j;go_wp2_with (go_at_call 65;refine(vN _ _).mono ?_;rintro e w' ⟨rfl,r⟩;obtain rfl:=r.symm);go_ret2;exact⟨rfl,rfl⟩
 have h1:wi n 1 32=false:=qG.2 h;have h2:BB n=0:=by unfold BB;rw[jN (by rw[h1];simp)]
 rw[h1,h2];have hc:n<1\/(1<=n/\32<n):=by omega
 clear h1 h2 h;rcases hc with hc|⟨hc,z⟩
 ·go_in;go_wp2;go_ret2;exact⟨rfl,rfl⟩
 go_in;go_wp2;go_ret2;exact⟨rfl,rfl⟩
theorem yim(n:Int)(w:World):
  Calls Tryz.prog 59 #[n] w fun e w'=>e= .returned (.tuple #[.int .i64 (runV n),.bool (wi n 33 512)])/\w'=w:=by
 by_cases h:33<=n/\n<=512
 ·have h1:wi n 33 512=true:=IA.2 h;have h2:runV n=(n+64-1)/64:=by unfold runV;rw[jP h1];omega
  have j:=wrp (n+64);have l:=wrp (n+64-1);have o:IntKind.i64.wrap ((n+64-1).tdiv 64)=(n+64-1)/64:=by rw[Int.tdiv_eq_ediv_of_nonneg (by omega)];exact IntWalk.i64_in _ ⟨by omega,by omega⟩
  rw[h1,h2];clear h2;obtain⟨h3,h4⟩:=h;go_in;go_wp2;go_ret2;exact⟨rfl,rfl⟩
 have h1:wi n 33 512=false:=qG.2 h;have h2:runV n=0:=by unfold runV;rw[jN (by rw[h1];simp)]
 rw[h1,h2];have hc:n<33\/(33<=n/\512<n):=by omega
 clear h1 h2 h;rcases hc with hc|⟨hc,i⟩
 ·go_in;go_wp2;go_ret2;exact⟨rfl,rfl⟩
 go_in;go_wp2;go_ret2;exact⟨rfl,rfl⟩
theorem xN(n:Int)(w:World):
  Calls Tryz.prog 19 #[n] w fun e w'=>e= .returned (.tuple #[.int .i64 (lenV n),.bool (lenB n)])/\w'=w:=by
 by_cases h:1<=n/\n<=32
 ·have h1:wi n 1 32=true:=IA.2 h;have h2:lenV n=qA (BB n):=by unfold lenV;rw[jP h1]
  have h3:lenB n=true:=IA.2 (by omega);rw[h2,h3];clear h2;go_in;go_wp2_with (first|(go_at_call 58;refine(RQ _ _).mono ?_;rintro e w' ⟨rfl,rfl⟩)|(go_at_call 65;refine(vN _ _).mono ?_;rintro e w' ⟨rfl,rfl⟩));go_ret2;exact⟨rfl,rfl⟩
 have h1:wi n 1 32=false:=qG.2 h;have h2:lenV n=runV n*64:=by unfold lenV;rw[jN (by rw[h1];simp)]
 have h3:lenB n=wi n 33 512:=by rw[Bool.eq_iff_iff];unfold lenB;rw[IA,IA];omega
 have hb:=WM n;have h4:=wrp (runV n*64);rw[h2,h3];clear h2 h3;go_in;go_wp2_with (first|(go_at_call 58;refine(RQ _ _).mono ?_;rintro e w' ⟨rfl,rfl⟩)|(go_at_call 59;refine(yim _ _).mono ?_;rintro e w' ⟨rfl,rfl⟩));go_ret2;exact⟨rfl,rfl⟩
theorem yjb(h:Hp)(v:Value)(a n:Int)(w:World)(b:Bok w v h)(ha:0<=a/\a<h.p)(hn:1<=n/\n<=8/\n<=h.p-a):
  Calls Tryz.prog 117 #[XE h v,a,n] w fun e w'=>e= .returned (.bool (h.rowB a n))/\Below w.heap.size w w':=by
 obtain⟨b1,_,_,_⟩:=b.bd;obtain⟨ao,cap,hv,_,_,_⟩:=b.rd.cells;generalize h.xs.length=m at hv;subst hv;have I:=fun q X (Z:Below w.heap.size w X) hq=>PG h (.slice ao m cap) q X (b.below Z) hq;obtain⟨N,M⟩:∃ N:Nat,n-1=N:=⟨(n-1).toNat,by omega⟩;have T:Hid (h.rowT a 0=true):=hd' rfl;have Y:Hid (∀ i:Nat,h.rowT a (i+1)=(h.rowT a i&&(h.pk (a+1+i)==4&&h.pa (a+1+i)==a))):=hd' fun _=>rfl;have V:Hid (∀ i,i<=N->h.rowT a i=false->h.rowB a n=false):=hd' fun i hi hf=>by unfold Hp.rowB;exact h.yid a (by omega) hf
 have U:Hid (h.rowT a N=h.rowB a n):=hd' (by unfold Hp.rowB;rw[M,Int.toNat_natCast]);replace M:=hd' M;replace I:=hd' I;have wa:=wrp (a+1);have wn:=wrp (a+n);clear b;go_in;have g0:=jA w (.cells #[h.p,h.c,h.m,.slice ao m cap] 115);have J:Below w.heap.size w (w.alloc (.cells #[h.p,h.c,h.m,.slice ao m cap] 115)):=br.alloc lr _;go_upto_region 1 with fail;obtain⟨H,hH,L⟩:=hidv w.heap.size;rw[<-L]at g0 ⊢;clear L;generalize w.alloc (.cells #[h.p,h.c,h.m,.slice ao m cap] 115)=W at *;have c0:W.cell? ⟨H,0,.none⟩=some (.int .i64 h.p):=kA g0 0;have c1:W.cell? ⟨H,1,.none⟩=some (.int .i64 h.c):=kA g0 1;have c2:W.cell? ⟨H,2,.none⟩=some (.int .i64 h.m):=kA g0 2;have c3:W.cell? ⟨H,3,.none⟩=some (.slice ao m cap):=kA g0 3;clear g0;go_wp2_with fail;go_loopw [7] (fun vi wr=>∃ i:Nat,i<=N/\vi= .int .i64 (a+1+i)/\Hid (h.rowT a i=true)/\Below W.heap.size W wr) (fun vi _=>(a+n-intOf vi).toNat);case atStart=>exact⟨0,Nat.zero_le _,by simp,T,Below.refl _ _⟩
 case round=>
  obtain⟨i,hi,rfl,S,y⟩:=hrel;have d0:=iA y _ _ _ c0;have d1:=iA y _ _ _ c1;have d2:=iA y _ _ _ c2;have d3:=iA y _ _ _ c3;have o:=J.trans (y.mono J.size);by_cases b4:i<N
  ·have hq:a+1+(i:Int)<a+n:=by have:=M.out;omega
   have E:=I (a+1+i) wr o (by omega);have l:=Y i;rw[S,Bool.true_and]at l;have C:=V (i+1) (by omega);have wq:IntKind.i64.wrap (a+1+(i:Int)+1)=a+1+(i:Int)+1:=IntWalk.i64_in _ ⟨by omega,by omega⟩;generalize h.pk (a+1+i)=k1 at *;generalize h.pa (a+1+i)=k2 at *;generalize h.pn (a+1+i)=k3 at *;generalize h.pb (a+1+i)=k4 at *;replace E:=hd' E
   have fin:Hid (∀ X,jW W X->h.rowT a (i+1)=true->(∃ j:Nat,j<=N/\Value.int .i64 (a+1+(i:Int)+1)= .int .i64 (a+1+j)/\Hid (h.rowT a j=true)/\Below W.heap.size W X)/\(a+n-(a+1+(i:Int)+1)).toNat<(a+n-(a+1+(i:Int))).toNat):=
    hd' fun X Z z=>⟨⟨i+1,by omega,by congr 1;omega,hd' z,Z⟩,by omega⟩
   by_cases D:k1=4
   ·by_cases G:k2=a
    ·have z:h.rowT a (i+1)=true:=by rw[l,D,G];simp
     subst D G;replace z:=hd' z;clear l C;go_wp2_with fail;refine E.out.mono ?_;rintro e w3 ⟨rfl,r⟩;go_wp2;exact fin _ ((y.trans (r.mono y.size)).alloc (Nat.le_trans y.size r.size) _) z.out
    have R:(k2==a)=false:=by rw[beq_eq_false_iff_ne];exact G
    have z:=C (by rw[l,R,Bool.and_false]);have b3:(k2 !=a)=true:=by simpa using G
    subst D;replace z:=hd' z;clear l C fin;go_wp2_with fail;refine E.out.mono ?_;rintro e w3 ⟨rfl,r⟩;go_wp2;go_ret;exact⟨by rw[z];rfl,(o.trans (r.mono o.size)).alloc (Nat.le_trans o.size r.size) _⟩
   have O:(k1==4)=false:=by rw[beq_eq_false_iff_ne];exact D
   have z:=C (by rw[l,O,Bool.false_and]);have b2:(k1 !=4)=true:=by simpa using D
   replace z:=hd' z;clear l C fin;go_wp2_with fail;refine E.out.mono ?_;rintro e w3 ⟨rfl,r⟩;go_wp2;go_ret;exact⟨by rw[z];rfl,(o.trans (r.mono o.size)).alloc (Nat.le_trans o.size r.size) _⟩
  have b0:i=N:=by omega
  subst b0;clear b4;have hq:¬ (a+1+(i:Int)<a+n):=by have:=M.out;omega
  go_wp2;go_ret;exact⟨by rw[<-U,S];rfl,o⟩
theorem yik(h:Hp)(v:Value)(a:Int)(w:World)(b:Bok w v h)(ha:0<=a/\a<h.p):
  Calls Tryz.prog 79 #[XE h v,a] w fun e w'=>e= .returned (.bool (h.snd a))/\Below w.heap.size w w':=by
 obtain⟨b1,_,_,_⟩:=b.bd;obtain⟨ao,cap,hv,_,_,_⟩:=b.rd.cells;generalize h.xs.length=m at hv;subst hv;have M:=fun X (O:Below w.heap.size w X)=>PG h (.slice ao m cap) a X (b.below O) ha;have b2:=fun q X (O:Below w.heap.size w X) hq=>PG h (.slice ao m cap) q X (b.below O) hq;have b4:=fun k X (O:Below w.heap.size w X)=>yii h (.slice ao m cap) a k X (b.below O) ha;have U:=fun X (O:Below w.heap.size w X)=>yiz h (.slice ao m cap) a X (b.below O) ha;have b3:=fun n X (O:Below w.heap.size w X) hn=>yjb h (.slice ao m cap) a n X (b.below O) ha hn;have R:=Hp.zN (h:=h) (a:=a);have S:=Hp.sN (h:=h) (a:=a);have b9:=h.dJ a
 have hs:h.snd a=if h.pb a=true then
  (if h.pk a=2 then h.sup a (h.pa a)
   else if h.pk a=3 then h.bare a&&h.rowB a (h.pa a)
   else if h.pk a=4 then h.bare a&&(h.pk (h.pa a)==1||(h.pk (h.pa a)==3&&decide (a<h.pa a+h.pa (h.pa a))))
   else if h.pk a=0 then h.bare a
   else true)
 else false:=rfl;generalize h.pk a=k1 at *;generalize h.pa a=r at *;generalize h.pn a=I at *;generalize h.pb a=kb at *;generalize h.bare a=bb at *;rw[hs];clear hs b;replace M:=hd' M;replace b2:=hd' b2;replace b4:=hd' b4;replace U:=hd' U;replace b3:=hd' b3;rcases jB kb with b0|b0;case inr=>subst b0;rw[jN Bool.false_ne_true];clear R S;go_in;go_wp2_with fail;refine(M _ (br.alloc lr _)).mono ?_;rintro e i ⟨rfl,l⟩;have j:Below w.heap.size w i:=((Below.refl w.heap.size w).alloc lr _).trans (l.mono (by simp));go_wp2;go_ret;exact⟨rfl,j.alloc j.size _⟩
 case inl=>
  subst b0;rw[jP rfl];by_cases q2:k1=2
  ·rw[jP q2];subst q2;clear R S;go_in;go_wp2_with fail;refine(M _ (br.alloc lr _)).mono ?_;rintro e i ⟨rfl,l⟩;have j:Below w.heap.size w i:=((Below.refl w.heap.size w).alloc lr _).trans (l.mono (by simp));have g0:=(l.block _ (by simp)).trans (jA w (.cells #[h.p,h.c,h.m,.slice ao m cap] 115));have D:=jA i (.cells #[.int .i64 2,r,I] 136);have o:Below i.heap.size i (i.alloc (.cells #[.int .i64 2,r,I] 136)):=br.alloc lr _;have g0:=(o.block _ (jE g0)).trans g0;have y:Below w.heap.size w (i.alloc (.cells #[.int .i64 2,r,I] 136)):=j.trans (o.mono j.size);go_upto_region 2 with fail;obtain⟨H,hH,C⟩:=hidv w.heap.size;rw[<-C]at g0 ⊢;clear C o j l;generalize i.heap.size=G at D ⊢;generalize i.alloc (.cells #[.int .i64 2,r,I] 136)=W at *;have c0:W.cell? ⟨H,0,.none⟩=some (.int .i64 h.p):=kA g0 0;have c1:W.cell? ⟨H,1,.none⟩=some (.int .i64 h.c):=kA g0 1;have c2:W.cell? ⟨H,2,.none⟩=some (.int .i64 h.m):=kA g0 2;have c3:W.cell? ⟨H,3,.none⟩=some (.slice ao m cap):=kA g0 3;have p0:W.cell? ⟨G,0,.none⟩=some (.int .i64 2):=kA D 0;have p1:W.cell? ⟨G,1,.none⟩=some (.int .i64 r):=kA D 1;clear g0 D;go_wp2_with fail;refine(b4 r _ y).mono ?_;rintro e w2 ⟨rfl,z⟩;go_wp2;go_ret;exact⟨rfl,y.trans (z.mono y.size)⟩
  rw[jN q2];by_cases q3:k1=3
  ·rw[jP q3];subst q3;have hk:=R (by simp);clear R S q2;have Z:=fun X O=>b3 r X O hk;generalize h.rowB a r=rb at *;replace Z:=hd' Z;go_in;go_wp2_with fail;refine(M _ (br.alloc lr _)).mono ?_;rintro e i ⟨rfl,l⟩;have j:Below w.heap.size w i:=((Below.refl w.heap.size w).alloc lr _).trans (l.mono (by simp));have g0:=(l.block _ (by simp)).trans (jA w (.cells #[h.p,h.c,h.m,.slice ao m cap] 115));have D:=jA i (.cells #[.int .i64 3,r,I] 136);have o:Below i.heap.size i (i.alloc (.cells #[.int .i64 3,r,I] 136)):=br.alloc lr _;have g0:=(o.block _ (jE g0)).trans g0;have y:Below w.heap.size w (i.alloc (.cells #[.int .i64 3,r,I] 136)):=j.trans (o.mono j.size);go_upto_region 2 with fail;obtain⟨H,hH,C⟩:=hidv w.heap.size;rw[<-C]at g0 ⊢;clear C o j l;generalize i.heap.size=G at D ⊢;generalize i.alloc (.cells #[.int .i64 3,r,I] 136)=W at *;have c0:W.cell? ⟨H,0,.none⟩=some (.int .i64 h.p):=kA g0 0;have c1:W.cell? ⟨H,1,.none⟩=some (.int .i64 h.c):=kA g0 1;have c2:W.cell? ⟨H,2,.none⟩=some (.int .i64 h.m):=kA g0 2;have c3:W.cell? ⟨H,3,.none⟩=some (.slice ao m cap):=kA g0 3;have p0:W.cell? ⟨G,0,.none⟩=some (.int .i64 3):=kA D 0;have p1:W.cell? ⟨G,1,.none⟩=some (.int .i64 r):=kA D 1;clear g0 D;go_wp2_with fail;refine(U _ y).mono ?_;rintro e w2 ⟨rfl,z⟩;have L:=y.trans (z.mono y.size);have c0:=iA z _ _ _ c0;have c1:=iA z _ _ _ c1;have c2:=iA z _ _ _ c2;have c3:=iA z _ _ _ c3;have p0:=iA z _ _ _ p0;have p1:=iA z _ _ _ p1;rcases jB bb with N|N
   ·subst N;go_wp2_with fail;refine(Z _ L).mono ?_;rintro e w3 ⟨rfl,E⟩;go_wp2;go_ret;exact⟨rfl,L.trans (E.mono L.size)⟩
   subst N;go_wp2;go_ret;exact⟨rfl,L⟩
  rw[jN q3];by_cases q4:k1=4
  ·rw[jP q4];subst q4;have hk:=S (by simp);clear R S q2 q3;have Y:=fun X O=>b2 r X O (by omega);have b8:=h.dJ r;generalize h.pk r=j1 at *;generalize h.pa r=j2 at *;generalize h.pn r=j3 at *;generalize h.pb r=jb at *;replace Y:=hd' Y;have wj:=wrp (r+j2);go_in;go_wp2_with fail;refine(M _ (br.alloc lr _)).mono ?_;rintro e i ⟨rfl,l⟩;have j:Below w.heap.size w i:=((Below.refl w.heap.size w).alloc lr _).trans (l.mono (by simp));have g0:=(l.block _ (by simp)).trans (jA w (.cells #[h.p,h.c,h.m,.slice ao m cap] 115));have D:=jA i (.cells #[.int .i64 4,r,I] 136);have o:Below i.heap.size i (i.alloc (.cells #[.int .i64 4,r,I] 136)):=br.alloc lr _;have g0:=(o.block _ (jE g0)).trans g0;have y:Below w.heap.size w (i.alloc (.cells #[.int .i64 4,r,I] 136)):=j.trans (o.mono j.size);go_upto_region 2 with fail;obtain⟨H,hH,C⟩:=hidv w.heap.size;rw[<-C]at g0 ⊢;clear C o j l;generalize i.heap.size=G at D ⊢;generalize i.alloc (.cells #[.int .i64 4,r,I] 136)=W at *;have c0:W.cell? ⟨H,0,.none⟩=some (.int .i64 h.p):=kA g0 0;have c1:W.cell? ⟨H,1,.none⟩=some (.int .i64 h.c):=kA g0 1;have c2:W.cell? ⟨H,2,.none⟩=some (.int .i64 h.m):=kA g0 2;have c3:W.cell? ⟨H,3,.none⟩=some (.slice ao m cap):=kA g0 3;have p0:W.cell? ⟨G,0,.none⟩=some (.int .i64 4):=kA D 0;have p1:W.cell? ⟨G,1,.none⟩=some (.int .i64 r):=kA D 1;clear g0 D;go_wp2_with fail;refine(Y _ y).mono ?_;rintro e w2 ⟨rfl,z⟩;have E:=z.alloc z.size (.cells #[j1,j2,j3] 136);have g2:=jA w2 (.cells #[j1,j2,j3] 136);have L:=y.trans (E.mono y.size);have c0:=iA E _ _ _ c0;have c1:=iA E _ _ _ c1;have c2:=iA E _ _ _ c2;have c3:=iA E _ _ _ c3;have p0:=iA E _ _ _ p0;have p1:=iA E _ _ _ p1;go_upto_region 11 with fail;generalize w2.heap.size=K at g2 ⊢;generalize w2.alloc (.cells #[j1,j2,j3] 136)=V at *;have r0:V.cell? ⟨K,0,.none⟩=some (.int .i64 j1):=kA g2 0;have r1:V.cell? ⟨K,1,.none⟩=some (.int .i64 j2):=kA g2 1;clear g2 E z;go_wp2_with fail;refine(U _ L).mono ?_;rintro e w3 ⟨rfl,J⟩;have T:=L.trans (J.mono L.size);have c0:=iA J _ _ _ c0;have c1:=iA J _ _ _ c1;have c2:=iA J _ _ _ c2;have c3:=iA J _ _ _ c3;have p0:=iA J _ _ _ p0;have p1:=iA J _ _ _ p1;have r0:=iA J _ _ _ r0;have r1:=iA J _ _ _ r1;rcases jB bb with N|N
   ·subst N;by_cases x1:j1=1
    ·subst x1;go_wp2;go_ret;exact⟨by rfl,T⟩
    have b6:(j1==1)=false:=by rw[beq_eq_false_iff_ne];exact x1
    by_cases x3:j1=3
    ·subst x3;by_cases x4:a<r+j2
     ·have b5:decide (a<r+j2)=true:=jT x4;go_wp2;go_ret;exact⟨by rw[b5];rfl,T⟩
     have b5:decide (a<r+j2)=false:=jF x4;go_wp2;go_ret;exact⟨by rw[b5];rfl,T⟩
    have b7:(j1==3)=false:=by rw[beq_eq_false_iff_ne];exact x3
    go_wp2;go_ret;exact⟨by rw[b6,b7];rfl,T⟩
   subst N;go_wp2;go_ret;exact⟨by rfl,T⟩
  rw[jN q4];clear R S;have y2:(k1==2)=false:=by rw[beq_eq_false_iff_ne];exact q2
  have y3:(k1==3)=false:=by rw[beq_eq_false_iff_ne];exact q3
  have y4:(k1==4)=false:=by rw[beq_eq_false_iff_ne];exact q4
  by_cases q0:k1=0
  ·rw[jP q0];subst q0;go_in;go_wp2_with fail;refine(M _ (br.alloc lr _)).mono ?_;rintro e i ⟨rfl,l⟩;have j:Below w.heap.size w i:=((Below.refl w.heap.size w).alloc lr _).trans (l.mono (by simp));have g0:=(l.block _ (by simp)).trans (jA w (.cells #[h.p,h.c,h.m,.slice ao m cap] 115));have D:=jA i (.cells #[.int .i64 0,r,I] 136);have o:Below i.heap.size i (i.alloc (.cells #[.int .i64 0,r,I] 136)):=br.alloc lr _;have g0:=(o.block _ (jE g0)).trans g0;have y:Below w.heap.size w (i.alloc (.cells #[.int .i64 0,r,I] 136)):=j.trans (o.mono j.size);go_upto_region 2 with fail;obtain⟨H,hH,C⟩:=hidv w.heap.size;rw[<-C]at g0 ⊢;clear C o j l;generalize i.heap.size=G at D ⊢;generalize i.alloc (.cells #[.int .i64 0,r,I] 136)=W at *;have c0:W.cell? ⟨H,0,.none⟩=some (.int .i64 h.p):=kA g0 0;have c1:W.cell? ⟨H,1,.none⟩=some (.int .i64 h.c):=kA g0 1;have c2:W.cell? ⟨H,2,.none⟩=some (.int .i64 h.m):=kA g0 2;have c3:W.cell? ⟨H,3,.none⟩=some (.slice ao m cap):=kA g0 3;have p0:W.cell? ⟨G,0,.none⟩=some (.int .i64 0):=kA D 0;have p1:W.cell? ⟨G,1,.none⟩=some (.int .i64 r):=kA D 1;clear g0 D;go_wp2_with fail;refine(U _ y).mono ?_;rintro e w2 ⟨rfl,z⟩;go_wp2;go_ret;exact⟨rfl,y.trans (z.mono y.size)⟩
  rw[jN q0];have y0:(k1==0)=false:=by rw[beq_eq_false_iff_ne];exact q0
  go_in;go_wp2_with fail;refine(M _ (br.alloc lr _)).mono ?_;rintro e i ⟨rfl,l⟩;have j:Below w.heap.size w i:=((Below.refl w.heap.size w).alloc lr _).trans (l.mono (by simp));have g0:=(l.block _ (by simp)).trans (jA w (.cells #[h.p,h.c,h.m,.slice ao m cap] 115));have D:=jA i (.cells #[k1,r,I] 136);have o:Below i.heap.size i (i.alloc (.cells #[k1,r,I] 136)):=br.alloc lr _;have g0:=(o.block _ (jE g0)).trans g0;have y:Below w.heap.size w (i.alloc (.cells #[k1,r,I] 136)):=j.trans (o.mono j.size);go_upto_region 2 with fail;obtain⟨H,hH,C⟩:=hidv w.heap.size;rw[<-C]at g0 ⊢;clear C o j l;generalize i.heap.size=G at D ⊢;generalize i.alloc (.cells #[k1,r,I] 136)=W at *;have c0:W.cell? ⟨H,0,.none⟩=some (.int .i64 h.p):=kA g0 0;have c1:W.cell? ⟨H,1,.none⟩=some (.int .i64 h.c):=kA g0 1;have c2:W.cell? ⟨H,2,.none⟩=some (.int .i64 h.m):=kA g0 2;have c3:W.cell? ⟨H,3,.none⟩=some (.slice ao m cap):=kA g0 3;have p0:W.cell? ⟨G,0,.none⟩=some (.int .i64 k1):=kA D 0;have p1:W.cell? ⟨G,1,.none⟩=some (.int .i64 r):=kA D 1;clear g0 D;go_wp2;go_ret;exact⟨rfl,y⟩
end

end Go.Proofs.YtkilokkopbajkaaGreat

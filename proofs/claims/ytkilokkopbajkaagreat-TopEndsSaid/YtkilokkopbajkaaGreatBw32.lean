
import Derived.Laws.CopyRow

import Derived.Lib.Overlaps

import Derived.Test.YtkilokkopbajkaaGreatBw28

import Derived.Test.YtkilokkopbajkaaGreatBw31

set_option linter.all false
set_option maxHeartbeats 4000000
set_option maxRecDepth 100000
namespace Go.Proofs.YtkilokkopbajkaaGreat

open RowKit

attribute [local go_sem ↓] wp_at_zero wp_at_succ

attribute [local go_sem] RB

theorem z8b{F:Nat->Prop}{w:World}{v:Value}{s:Sh}{cl:Int}{j:Jb}(h:JbO F w v s cl j):∃T x,v=.iface T x:=by
 cases j<;>(obtain⟨q,e,_⟩:=h;exact⟨_,_,e⟩)
structure jJ (F:Nat->Prop) (q:Nat) (w w':World) (r:Ending) (s:Sh) (k:Kl) (o:Op3):Prop where
 ret:∃v,r=.returned (.tuple #[v,.int .i64 (k.invoke s o).2.2])/\w'.ownsRow w.heap.size 62 8 v (k.invoke s o).2.1.length ((k.invoke s o).2.1.flatMap λe=>e.cells.toList)
 kl:KlO (grow F w w') w' q s (k.invoke s o).1
 only:Only F w w'
 kl0:(k.invoke s o).1.job=none->KlO F w' q s (k.invoke s o).1
theorem pX{F:Nat->Prop}{q:Nat}{s:Sh}{k:Kl}{o:Op3}{w:World}(h:KlO F w q s k)(i:k.rests=false\/(k.rests=true/\(o.k<1\/4<o.k))):
  Calls Tryz.prog 47 #[some q,.agg #[o.k,o.a,o.n]] w λr w'=>jJ F q w w' r s k o:=by
 obtain⟨ok,oa,on⟩:=o;dsimp only at i|-;have z:=(Below.refl w.heap.size w).alloc lr (.cells #[ok,oa,on] 32);have E:aA (w.alloc (.cells #[ok,oa,on] 32)) w.heap.size #[ok,oa,on] 32:=jA _ _;have l:=(h.below z).rests;have D:Hid (∀W x,jW w W->k.invoke s ⟨ok,oa,on⟩=(k,[],x)->jJ F q w W (.returned (.tuple #[.slice none 0 0,.int .i64 x])) s k ⟨ok,oa,on⟩):=hd' λW x hb j=>by
  refine⟨⟨_,by rw[j],?_⟩,?_,Only.of_below hb,λ_=>by rw[j];exact h.below hb⟩
  .rw[j];exact SH _ _
  rw[j];exact(h.below hb).weak (λb hb=>.inl hb) (ME h.lt hb.size)
 have J:∀W:World,(binOp .eql 57 (.pointer (some ⟨q,0,.none⟩)) (.pointer none)).run Tryz.prog W=.ok (.bool false) W:=λW=>by kernel_rfl
 have G:(k.rests=false/\k.invoke s ⟨ok,oa,on⟩=(k,[],4))\/(k.rests=true/\ok<1/\k.invoke s ⟨ok,oa,on⟩=(k,[],1))\/(k.rests=true/\decide (ok<1)=false/\4<ok/\k.invoke s ⟨ok,oa,on⟩=(k,[],1)):=by
  rcases i with i|⟨i,N⟩
  .exact .inl ⟨i,by unfold Kl.invoke;rw[jP i]⟩
  have e:k.invoke s ⟨ok,oa,on⟩=(k,[],1):=by unfold Kl.invoke;rw[jN (by rw[i];decide),jP N]
  by_cases h1:ok<1
  .exact .inr (.inl ⟨i,h1,e⟩)
  exact .inr (.inr ⟨i,jF h1,by omega,e⟩)
 clear i h;rcases G with⟨j,C⟩|⟨j,h1,C⟩|⟨j,h1,h2,C⟩;all_goals rw[j]at l;replace l:=hd' l;replace C:=hd' C;clear j;go_in;go_upto_region 1 with fail;generalize w.alloc (.cells #[ok,oa,on] 32)=X at*;obtain⟨H,M,y⟩:=hidv w.heap.size;rw[<-y]at E|-;clear y;have O:H<X.heap.size:=E.lt;have L:=E.cell;go_wp2_with (go_at_call 66;(with_reducible refine l.out.mono ?_);rintro r R ⟨rfl,I⟩;obtain rfl:=I.symm);go_returns;exact D _ _ z C.out
theorem z4b{F:Nat->Prop}{q:Nat}{s:Sh}{k:Kl}{o:Op3}{w:World}(h:KlO F w q s k)(hj:k.job=none)(hk:1<=o.k/\o.k<=4):
  Calls Tryz.prog 47 #[some q,.agg #[o.k,o.a,o.n]] w λr w'=>jJ F q w w' r s k o:=by
 have cb:k.rests=true:=by unfold Kl.rests;rw[hj];rfl
 have y:k.invoke s o=if yC s k.c o.k o.a o.n=true then({k with op:=o,told:=false,steps:=0},[NA k.c o,RA k.c o 0 (MC s k.c o.k o.a o.n)],0) else({k with op:=o,told:=false,steps:=0,job:=some (ZB s k.c k.first o.k o.a o.n)},[NA k.c o],0):=by unfold Kl.invoke;rw[jN (by rw[cb];decide),jN (by omega)]
 have b9:=(Below.refl w.heap.size w).alloc lr (.cells #[o.k,o.a,o.n] 32);have hH:aA (w.alloc (.cells #[o.k,o.a,o.n] 32)) w.heap.size #[o.k,o.a,o.n] 32:=jA _ _;have bg:=(h.below b9).rests;rw[cb]at bg;replace bg:=hd' bg;have ev:∀W:World,(binOp .eql 57 (.pointer (some ⟨q,0,.none⟩)) (.pointer none)).run Tryz.prog W=.ok (.bool false) W:=λW=>by kernel_rfl
 obtain⟨hF,hq,sp,sl,jv,G,bh,bj,N,hG,_,_⟩:=h;have hi:(!k.job.isSome)=true:=by rw[hj];rfl
 rw[hi]at bh;have cp:xF k=[]:=by unfold xF;rw[hj]
 rw[cp]at bj;have J:∀i,(i=q\/foot sp sl i)->i<w.heap.size:=λi hi=>by rcases hi with rfl|hi;exact hF _ hq;exact hF i (N i hi).1
 have z:=λW=>zyq s k.c o.k o.a o.n W hk;have E:=λ(W:World) (i:Bool) (jv:Value) (hr:aA W q (RB s {k with op:=o,told:=false,steps:=0} i jv (.pointer (some ⟨sp,0,.none⟩))) 161)=>zue (k:={k with op:=o,told:=false,steps:=0}) hr hk
 have O:=hd' (λ(W:World) (v:Value) (hB:yC s k.c o.k o.a o.n=true) (hr:aA W q (RB s {k with op:=o,told:=false,steps:=0} true .nilIface (.pointer (some ⟨sp,0,.none⟩))) 161) (hs:SK 0 W sp (.slice none 0 0) 1 []) (ho:Only F w W) (hv:W.ownsRow w.heap.size 62 8 v 2 ((NA k.c o).cells.toList++(RA k.c o 0 (MC s k.c o.k o.a o.n)).cells.toList))=>(by
  rw[jP hB]at y
  have h0:KlO F W q s {k with op:=o,told:=false,steps:=0}:=by
   refine⟨λi hi=>Nat.lt_of_lt_of_le (hF i hi) ho.size,hq,sp,.slice none 0 0,.nilIface,λ_=>False,?_,?_,λi hi=>?_,λi hi=>hi.elim,λ_=>rfl,λx hx=>?_⟩
   .have e:(!k.job.isSome)=true:=hi
    show aA W q (RB s _ (!k.job.isSome) _ _) _
    rw[e];exact hr
   .have e:xF {k with op:=o,told:=false,steps:=0}=[]:=by unfold xF;rw[show ({k with op:=o,told:=false,steps:=0}:Kl).job=none from hj]
    rw[e];exact hs
   .rcases hi with rfl|hi
    .exact⟨(N _ (.inl rfl)).1,(N _ (.inl rfl)).2⟩
    .cases hi
   .have hx:k.job=some x:=hx
    rw[hj]at hx;exact absurd hx (λe=>by cases e)
  exact⟨⟨v,by rw[y],by rw[y];exact hv⟩,by rw[y];exact h0.weak (λ_ hi=>.inl hi) (ME hF ho.size),ho,λ_=>by rw[y];exact h0⟩:jJ F q w W (.returned (.tuple #[v,.int .i64 0])) s k o))
 have b1:=hd' (λ(W:World) (v jv D:Value) (H:Nat->Prop) (hB:yC s k.c o.k o.a o.n=false) (hr:aA W q (RB s {k with op:=o,told:=false,steps:=0} false jv (.pointer (some ⟨sp,0,.none⟩))) 161) (hs:SK 0 W sp D 1 [⟨o.k,0,[o.a,o.n,0,0,0,0,0,0]⟩]) (e9:∀i,foot sp D i->foot sp sl i\/(w.heap.size<=i/\i<W.heap.size)) (hH:∀i,H i->w.heap.size<=i/\i<W.heap.size) (hd:∀i,H i->¬foot sp D i) (hJ:JbO H W jv s k.c (ZB s k.c k.first o.k o.a o.n)) (ho:Only F w W) (hv:W.ownsRow w.heap.size 62 8 v 1 (NA k.c o).cells.toList)=>(by
  rw[jN (by rw[hB];decide)]at y
  refine⟨⟨v,by rw[y],?_⟩,?_,ho,λe=>by rw[y]at e;exact absurd e (λe=>by cases e)⟩
  .rw[y];exact hv
  .rw[y]
   refine⟨ME hF ho.size,.inl hq,sp,D,jv,H,hr,hs,λi hi=>?_,λi hi=>⟨.inr (hH i hi),λe=>by have:=J i (.inl e);have:=hH i hi;omega,hd i hi⟩,λe=>(by cases e),λx hx=>?_⟩
   .rcases e9 i hi with l|l
    .exact⟨.inl (N i l).1,(N i l).2⟩
    .exact⟨.inr l,λe=>by have:=J i (.inl e);omega⟩
   .injection hx with hx
    subst hx
    exact hJ:jJ F q w W (.returned (.tuple #[v,.int .i64 0])) s k o))
 clear y cb hi cp hj;have C:=bh.below b9;have bp:=bj.below b9;generalize bx:yC s k.c o.k o.a o.n=ob at*;generalize MC s k.c o.k o.a o.n=oe at*;obtain⟨ok,oa,on⟩:=o;obtain⟨kc,kf,⟨f6,f5,f7⟩,kj,kt,ks⟩:=k;dsimp only at z E O b1|-;generalize ZB s kc kf ok oa on=jn at*;obtain⟨cf,sc,sm⟩:=s;dsimp only[RB]at C E O b1 z;clear bh bj bx;go_in;go_upto_region 1 with fail;generalize w.alloc (.cells #[ok,oa,on] 32)=X at*;obtain⟨H,ez,c6⟩:=hidv w.heap.size;rw[<-c6]at hH|-;have f0:w.heap.size<=H:=by omega
 clear c6;have lH:H<X.heap.size:=hH.lt;have cu:=hH.cell;have e4:decide (ok<1)=false:=jF (by have:1<=ok:=hk.1;omega);have e5:decide (4<ok)=false:=jF (by have:ok<=4:=hk.2;omega);have ep:q<X.heap.size:=C.lt;have fX:=KA C;have cv:=C.cell;have e7:H≠q:=λe=>by have:=J q (.inl rfl);omega
 go_upto_region 8 with(go_at_call 66;(with_reducible refine bg.out.mono ?_);rintro r w1 ⟨rfl,ec⟩;obtain rfl:=ec.symm);have T:aA ((((((X.setCell ⟨q,5,.none⟩ (.int .i64 ok)).setCell ⟨q,6,.none⟩ (.int .i64 oa)).setCell ⟨q,7,.none⟩ (.int .i64 on)).setCell ⟨q,9,.none⟩ (.bool false)).setCell ⟨q,10,.none⟩ (.bool false)).setCell ⟨q,12,.none⟩ (.int .i64 0)) q #[cf,sc,sm,kc,kf,ok,oa,on,jv,.bool false,.bool false,some sp,.int .i64 0] 161:=((((((C.set 5 (.int .i64 ok)).set 6 (.int .i64 oa)).set 7 (.int .i64 on)).set 9 (.bool false)).set 10 (.bool false)).set 12 (.int .i64 0));have oq:Only (λi=>i=q) X ((((((X.setCell ⟨q,5,.none⟩ (.int .i64 ok)).setCell ⟨q,6,.none⟩ (.int .i64 oa)).setCell ⟨q,7,.none⟩ (.int .i64 on)).setCell ⟨q,9,.none⟩ (.bool false)).setCell ⟨q,10,.none⟩ (.bool false)).setCell ⟨q,12,.none⟩ (.int .i64 0)):=Only.setCell (F:=λi=>i=q) (Only.setCell (F:=λi=>i=q) (Only.setCell (F:=λi=>i=q) (Only.setCell (F:=λi=>i=q) (Only.setCell (F:=λi=>i=q) (Only.setCell (F:=λi=>i=q) (Only.refl _ _) (.inl rfl) _) (.inl rfl) _) (.inl rfl) _) (.inl rfl) _) (.inl rfl) _) (.inl rfl) _;have bk:=oq.stk bp (λi hi e=>(N i hi).2 e);have bu:=hH.only oq e7;have cc:Only (λi=>i=q\/foot sp sl i) w ((((((X.setCell ⟨q,5,.none⟩ (.int .i64 ok)).setCell ⟨q,6,.none⟩ (.int .i64 oa)).setCell ⟨q,7,.none⟩ (.int .i64 on)).setCell ⟨q,9,.none⟩ (.bool false)).setCell ⟨q,10,.none⟩ (.bool false)).setCell ⟨q,12,.none⟩ (.int .i64 0)):=(Only.of_below b9).trans oq (λi _ hi=>.inl hi);have eb:=oq.size;generalize ((((((X.setCell ⟨q,5,.none⟩ (.int .i64 ok)).setCell ⟨q,6,.none⟩ (.int .i64 oa)).setCell ⟨q,7,.none⟩ (.int .i64 on)).setCell ⟨q,9,.none⟩ (.bool false)).setCell ⟨q,10,.none⟩ (.bool false)).setCell ⟨q,12,.none⟩ (.int .i64 0))=w2 at*;clear C bp hH b9 lH cu e4 e5 ep fX cv bg oq;have ck:w.heap.size<=w2.heap.size:=cc.size;have ek:q<w2.heap.size:=T.lt;have eh:H<w2.heap.size:=bu.lt;have bA:Below w2.heap.size w2 (w2.alloc (.cells #[oa,on] 2)).drew:=(br.alloc lr _).drew;have hA:aA (w2.alloc (.cells #[oa,on] 2)).drew w2.heap.size #[oa,on] 2:=aA.drew (jA _ _)
 have S:jK 95 #[some sp,ok,.slice (some ⟨w2.heap.size,0,.none⟩) 2 2] (w2.alloc (.cells #[oa,on] 2)).drew λe w'=>e=.returned (.bool true)/\Only (foot sp sl) (w2.alloc (.cells #[oa,on] 2)).drew w'/\∃D,(∀k,D.ownBlock=some k->sl.ownBlock=some k\/(w2.alloc (.cells #[oa,on] 2)).drew.heap.size<=k)/\SK 0 w' sp D 1 [⟨ok,0,[oa,on,0,0,0,0,0,0]⟩]:=zt0 (w:=(w2.alloc (.cells #[oa,on] 2)).drew) (code:=ok) (ao:=some ⟨w2.heap.size,0,.none⟩) (zs:=[oa,on]) (cap:=2) (bk.below bA) (by simp) (by simp) (Nat.zero_le _) (by decide) (λa ha j v hv=>by
  injection ha with ha
  subst ha
  rw[sQ,Nat.zero_add,hA.cell j]
  rcases j with _|_|j
  .exact hv
  .exact hv
  .simp at hv) (λe=>by cases e)
 replace S:=hd' S;have U:=T.drew;have b7:=bu.drew;have b3:=T.below bA;have c8:=bu.below bA;have hS:=hd' (λ(Y:World) (hr:aA Y q #[cf,sc,sm,kc,kf,ok,oa,on,jv,.bool false,.bool false,some sp,.int .i64 0] 161) (hb:aA Y H #[ok,oa,on] 32)=>(⟨hr.cell 11,hb.cell 0,hb.cell 1,hb.cell 2⟩:Y.cell? ⟨q,11,.none⟩=some (.pointer (some ⟨sp,0,.none⟩))/\Y.cell? ⟨H,0,.none⟩=some (.int .i64 ok)/\Y.cell? ⟨H,1,.none⟩=some (.int .i64 oa)/\Y.cell? ⟨H,2,.none⟩=some (.int .i64 on)));have bf:¬foot sp sl q:=λe=>(N q e).2 rfl;have ch:¬foot sp sl H:=λe=>by have:=J H (.inr e);omega
 go_region_held3 (λY=>Y.cell? ⟨q,11,.none⟩=some (.pointer (some ⟨sp,0,.none⟩))/\Y.cell? ⟨H,0,.none⟩=some (.int .i64 ok)/\Y.cell? ⟨H,1,.none⟩=some (.int .i64 oa)/\Y.cell? ⟨H,2,.none⟩=some (.int .i64 on))
  (first|exact hS _ U b7|exact hS _ b3 c8|exact hS _ (U.alloc _) (b7.alloc _)|exact hS _ L b8)
  (first|(go_at_call 95;(with_reducible refine S.out.mono ?_);rintro r w3 ⟨rfl,bz,D,c7,b4⟩;have L:=b3.only bz bf;have b8:=c8.only bz ch))
 have bq:Only (λi=>i=q\/foot sp sl i) w w3:=(cc.trans (Only.of_below (F:=λ_=>False) bA) (λ_ _ l=>l.elim)).trans bz (λi _ hi=>.inr hi);have cr:∀i,foot sp D i->foot sp sl i\/(w.heap.size<=i/\i<w3.heap.size):=λi hi=>by
  rcases hi with rfl|hi
  .exact .inl (.inl rfl)
  rcases c7 i hi with l|l
  .exact .inl (.inr l)
  have h1:=bA.size;exact .inr ⟨by omega,(b4.AF i hi).2⟩
 clear T bk bu cc eb ck ek eh bA hA S U b7 b3 c8 hS bz c7 ch bf;go_upto_region 9 with fail;have ck:w.heap.size<=w3.heap.size:=bq.size;have el:q<w3.heap.size:=L.lt;have ei:H<w3.heap.size:=b8.lt;have cx:=b8.cell;have cy:=L.cell;refine wret 6 ?_;repeat (go_big_quiet_step (fail))
 refine wqn λw4 I=>?_;have bi:=L.below I;have bm:=b4.below I;have cg:=b8.below I;have cs:=bq.trans (Only.of_below (F:=λ_=>False) I) (λ_ _ l=>l.elim);have f1:=I.size;clear L b4 b8 bq el ei cx cy;go_upto_region 10 with fail;have bb:Below w4.heap.size w4 (w4.alloc (.cells (NA kc ⟨ok,oa,on⟩).cells 62)):=br.alloc lr _;have R:(w4.alloc (.cells (NA kc ⟨ok,oa,on⟩).cells 62)).ownsRow w.heap.size 62 8 (.slice (some ⟨w4.heap.size,0,.none⟩) 1 1) 1 (NA kc ⟨ok,oa,on⟩).cells.toList:=World.ownsRow_lit w4 (NA kc ⟨ok,oa,on⟩).cells 1 (by omega) (by decide) rfl;have M:=bi.below bb;have b5:=bm.below bb;have bv:=cg.below bb;have c4:=cs.trans (Only.of_below (F:=λ_=>False) bb) (λ_ _ l=>l.elim);have cq:w4.heap.size<(w4.alloc (.cells (NA kc ⟨ok,oa,on⟩).cells 62)).heap.size:=by rw[size_alloc];omega
 dsimp only[NA,Ev.cells]at M b5 bv c4 R cq;generalize w4.alloc (.cells #[.int .i64 2,kc,ok,oa,on,.int .i64 0,.int .i64 0,.int .i64 0] 62)=w5 at*;clear bi bm cg cs bb;obtain⟨B,e1,c5⟩:=hidv w4.heap.size;rw[<-c5]at R cq|-;have ey:w.heap.size<=B:=by omega
 have ex:w3.heap.size<=B:=by omega
 clear c5 e1;have eu:w.heap.size<=w5.heap.size:=c4.size;have b0:∀i,foot sp D i->foot sp sl i\/(w.heap.size<=i/\i<B):=λi hi=>by
  rcases cr i hi with l|l
  .exact .inl l
  exact .inr ⟨l.1,by omega⟩
 have em:q<w5.heap.size:=M.lt;have ej:H<w5.heap.size:=bv.lt;have cz:=bv.cell;have e0:=M.cell;replace z:=hd' z;refine wre ?_;repeat (go_big_quiet_step (((go_at_call 96;exact AA (z _)))))
 refine wqn λw6 I=>?_;have V:=M.below I;have bn:=b5.below I;have bs:=c4.trans (Only.of_below (F:=λ_=>False) I) (λ_ _ l=>l.elim);have b2:=rE R I;have f2:=I.size;clear M b5 c4 R cz e0 em ej z bv;obtain⟨i0,e3,ed,ef,eg⟩:=info_parts JL;have bf:¬foot sp D q:=λe=>by
  rcases b0 q e with l|l
  .exact(N q l).2 rfl
  have:=J q (.inl rfl);omega
 have e2:¬foot sp D B:=λe=>by
  rcases b0 B e with l|l
  .have:=J B (.inr l);omega
  omega
 have e6:B≠q:=λe=>by have:=J q (.inl rfl);omega
 cases ob;case true=>
  have b6:=sU (s:=⟨cf,sc,sm⟩) (k:=⟨kc,kf,⟨ok,oa,on⟩,kj,false,0⟩) (i:=false) (jv:=jv) oe 0 V bn bf;dsimp only[RB,Ev.val,Ev.cells,RA]at b6;replace b6:=hd' b6;have cl:w.heap.size<=w6.heap.size:=bs.size;go_wp2_with (first|(go_at_call 97;(with_reducible refine b6.out.mono ?_);rintro r w8 ⟨rfl,h8,e8,cd⟩;have bc:=oC b2 (λi hi=>cd.block i (b2.lt i hi).2 (λe=>by(have:B=i:=by injection hi);subst this;exact e.elim e6 e2));have cm:w.heap.size<=w8.heap.size:=Nat.le_trans cl cd.size)|(refine nH rfl (.tmp 71) (.tmp 75) 59 rfl w.heap.size 62 i0 _ 8 64 Tryz.underlying59 e3 ed ef eg rfl (by omega) _ 1 (NA kc ⟨ok,oa,on⟩).cells.toList rfl (rE bc (br.alloc lr _)) _ 1 (RA kc ⟨ok,oa,on⟩ 0 oe).cells.toList rfl (evRd (RA kc ⟨ok,oa,on⟩ 0 oe) _) (ML _) (by simp only[maxLen];omega) (by omega) (by simp;omega) ?_;intro v9 w9 ca bw es;have c9:=sE ((Below.refl w.heap.size w8).alloc cm (.cells (RA kc ⟨ok,oa,on⟩ 0 oe).cells 62)) (rE bc (br.alloc lr _)) (by simp;omega) bw));go_returns;have lq:=J q (.inl rfl)
  have er:Only (λi=>i=q\/foot sp sl i) w w9:=NL (bs.trans cd (λi hi l=>by
   rcases l with l|l
   .exact .inl l
   .rcases b0 i l with e|e
    .exact .inr e
    .omega)) c9
  exact O w9 v9 trivial (h8.belB c9 lq) ((KI c9).stk e8 (λi hi e=>by
   rcases hi with rfl|hi
   .have:=J _ (.inr (.inl rfl));omega
   .cases hi)) (er.weak (λi hi=>by
   rcases hi with rfl|hi
   .exact hq
   .exact(N i hi).1)) ca
 case false=>
  have ea:=hd' (E w6 false jv V);have l6:q<w6.heap.size:=V.lt;clear O E;go_wp2_with (first|(go_at_call 98;(with_reducible refine ea.out.mono ?_);rintro r w7 ⟨f4,rfl,cj,ba⟩;obtain⟨T2,x2,rfl⟩:=z8b cj;have Z:=V.below ba;have ew:=Z.cell;have zf:=KA Z;have l7:=Z.lt));go_returns;have lq:=J q (.inl rfl);have f3:=ba.size;have hW:(w7.setCell ⟨q,8,.none⟩ (.iface T2 x2)).heap.size=w7.heap.size:=size_set _ _ _;have oq:Only (λi=>i=q) w7 (w7.setCell ⟨q,8,.none⟩ (.iface T2 x2)):=Only.setCell (F:=λi=>i=q) (Only.refl _ _) (.inl rfl) _;refine b1 _ _ (.iface T2 x2) D (λi=>w6.heap.size<=i/\i<w7.heap.size) trivial (Z.set 8 (.iface T2 x2)) (oq.stk (bn.below ba) (λi hi e=>bf (e▸hi))) (λi hi=>?_) (λi hi=>⟨Nat.le_trans bs.size hi.1,by rw[hW];exact hi.2⟩) (λi hi e=>?_) (cj.only oq (λi hi e=>by omega)) ?_ ?_
  .rcases b0 i hi with l|l
   .exact .inl l
   exact .inr ⟨l.1,by omega⟩
  .rcases b0 i e with l|l
   .have:=J i (.inr l);have:=bs.size;omega
   omega
  .refine((bs.trans (Only.of_below (F:=λ_=>False) ba) (λ_ _ l=>l.elim)).trans oq (λi _ l=>.inl l)).weak (λi hi=>?_);rcases hi with rfl|hi
   .exact hq
   exact(N i hi).1
  exact MU (rE b2 ba) oq (λi hi e=>by omega)
theorem z3l{F:Nat->Prop}{q:Nat}{s:Sh}{k:Kl}{o:Op3}{w:World}(h:KlO F w q s k):
  Calls Tryz.prog 47 #[some q,.agg #[o.k,o.a,o.n]] w λr w'=>jJ F q w w' r s k o:=by
 rcases hj:k.job with _|j
 .have i:k.rests=true:=by unfold Kl.rests;rw[hj];rfl
  by_cases l:1<=o.k/\o.k<=4
  .exact z4b h hj l
  exact pX h (.inr ⟨i,by omega⟩)
 have i:k.rests=false:=by unfold Kl.rests;rw[hj];rfl
 exact pX h (.inl i)
def gU (w w':World) (e:Ending) (s:Sh) (c:Int) (x:Nat):Prop:=Below w.heap.size w w'/\
 if uA s.p s.c s.m c<0 then e=.returned (.pointer none) else ∃q,e=.returned (.pointer (some ⟨q,0,.none⟩))/\KlO (λi=>w.heap.size<=i/\i<w'.heap.size) w' q s (DE c (Fl.jD x s.p))
theorem z0k(s:Sh)(c:Int)(x:Nat)(w:World)(hp: -9223372036854775808<=s.p/\s.p<=9223372036854775807):
  Calls Tryz.prog 91 #[.agg #[s.p,s.c,s.m],c,F64 x] w λe w'=>gU w w' e s c x:=by
 have z:=λW=>pC s.p s.c s.m c W;have D:=λW=>z4a x s.p hp.1 hp.2 W;have L:=λW=>zxv 1 W;unfold gU
 have I:=hd' (λ(Y W:World) (E S:Nat) (hb:Below w.heap.size w W) (hS:w.heap.size<=S) (hE:w.heap.size<=E) (R:E≠S) (M:aA W E (RB s (DE c (Fl.jD x s.p)) true .nilIface (.pointer (some ⟨S,0,.none⟩))) 161) (hs:aA W S #[.slice none 0 0,.int .i64 1] 197)=>(by
  refine⟨λi hi=>hi.2,⟨hE,M.lt⟩,S,.slice none 0 0,.nilIface,λ_=>False,M,⟨Nat.zero_le _,hs,World.ownsRow_nil _ _ _ _,by simp[Value.ownBlock],λf hf=>by cases hf⟩,λi hi=>?_,λi hi=>hi.elim,λ_=>rfl,λj hj=>by cases hj⟩
  rcases hi with rfl|hi
  .exact⟨⟨hS,hs.lt⟩,λe=>R e.symm⟩
  .exact absurd hi (λe=>by cases e):KlO (λi=>w.heap.size<=i/\i<W.heap.size) W E s (DE c (Fl.jD x s.p))))
 generalize uA s.p s.c s.m c=sx at*;generalize Fl.jD x s.p=sh at*;obtain⟨sp,o,y⟩:=s;dsimp only[RB,DE,Op3.zero]at z D I|-;replace z:=hd' z;replace D:=hd' D;replace L:=hd' L;have J:=(Below.refl w.heap.size w).alloc lr (.cells #[sp,o,y] 23);have t0:aA (w.alloc (.cells #[sp,o,y] 23)) w.heap.size #[sp,o,y] 23:=jA _ _;go_in;go_upto_region 1 with fail;generalize w.alloc (.cells #[sp,o,y] 23)=X at*;obtain⟨H,b0,G⟩:=hidv w.heap.size;rw[<-G]at t0|-;have b1:w.heap.size<=H:=by omega
 clear G;have lH:H<X.heap.size:=t0.lt;have O:=t0.cell;by_cases hs:sx<0
 .go_wp2_with (go_at_call 44;(with_reducible refine(z _).mono ?_);rintro r l ⟨rfl,C⟩);go_returns;refine⟨qA J C,?_⟩;first|rfl|(rw[jP hs])
 have b3:decide (sx<0)=false:=jF hs;go_upto_region 3 with(go_at_call 44;(with_reducible refine(z _).mono ?_);rintro r l ⟨rfl,C⟩);have t1:=t0.below C;have n:=qA J C;have N:=t1.drew;have bd:=n.drew;clear lH O J t0;have lH:H<l.drew.heap.size:=N.lt;have hS:=hd' (λ(Y:World) (M:aA Y H #[sp,o,y] 23)=>(⟨M.cell 0,M.cell 1,M.cell 2⟩:Y.cell? ⟨H,0,.none⟩=some (.int .i64 sp)/\Y.cell? ⟨H,1,.none⟩=some (.int .i64 o)/\Y.cell? ⟨H,2,.none⟩=some (.int .i64 y)))
 go_region_held3 (λY=>Y.cell? ⟨H,0,.none⟩=some (.int .i64 sp)/\Y.cell? ⟨H,1,.none⟩=some (.int .i64 o)/\Y.cell? ⟨H,2,.none⟩=some (.int .i64 y))
  (first|exact hS _ N|exact hS _ (N.alloc _)|exact hS _ ((N.alloc _).alloc _))
  (first|(go_at_call 120;refine(D _).mono ?_;rintro r w2 ⟨rfl,T⟩;obtain rfl:=T.symm)|(go_at_call 121;refine(L _).mono ?_;rintro r w3 ⟨rfl,U⟩;obtain rfl:=U.symm))
 all_goals go_wp2_with fail
 go_returns;have Z:(l.alloc (.cells #[.slice none 0 0,.int .i64 1] 197)).heap.size=l.heap.size+1:=size_alloc _ _;have r1:aA ((l.alloc (.cells #[.slice none 0 0,.int .i64 1] 197)).alloc (.cells #[sp,o,y,c,sh,.int .i64 0,.int .i64 0,.int .i64 0,.nilIface,.bool true,.bool false,some l.heap.size,.int .i64 0] 161)) l.heap.size #[.slice none 0 0,.int .i64 1] 197:=aA.alloc (jA _ _) _;have r2:aA ((l.alloc (.cells #[.slice none 0 0,.int .i64 1] 197)).alloc (.cells #[sp,o,y,c,sh,.int .i64 0,.int .i64 0,.int .i64 0,.nilIface,.bool true,.bool false,some l.heap.size,.int .i64 0] 161)) (l.heap.size+1) #[sp,o,y,c,sh,.int .i64 0,.int .i64 0,.int .i64 0,.nilIface,.bool true,.bool false,some l.heap.size,.int .i64 0] 161:=by have h:=jA (l.alloc (.cells #[.slice none 0 0,.int .i64 1] 197)) (.cells #[sp,o,y,c,sh,.int .i64 0,.int .i64 0,.int .i64 0,.nilIface,.bool true,.bool false,some l.heap.size,.int .i64 0] 161);rw[Z]at h;exact h
 have V:Below w.heap.size w ((l.alloc (.cells #[.slice none 0 0,.int .i64 1] 197)).alloc (.cells #[sp,o,y,c,sh,.int .i64 0,.int .i64 0,.int .i64 0,.nilIface,.bool true,.bool false,some l.heap.size,.int .i64 0] 161)).drew:=((n.alloc n.size (.cells #[.slice none 0 0,.int .i64 1] 197)).alloc (by rw[Z];have:=n.size;omega) (.cells #[sp,o,y,c,sh,.int .i64 0,.int .i64 0,.int .i64 0,.nilIface,.bool true,.bool false,some l.heap.size,.int .i64 0] 161)).drew;refine⟨V,?_⟩;try rw[jN hs]
 exact⟨_,rfl,I w _ (l.heap.size+1) l.heap.size V n.size (by have:=n.size;omega) (by omega) r2.drew r1.drew⟩
structure Pt where
 was:Bool
 lives:Bool
 asks:Bool
 k:Int
 a:Int
 n:Int
 took:Bool
 gave:Bool
 at':Int
 ab:Bool
 deriving DecidableEq
def Pt.zero:Pt:=⟨false,false,false,0,0,0,false,false,0,false⟩
def dF (p:Pt) (e:Ev):Int:=
 if e.k=0 then (if p.was=true then 1 else 0)
 else if e.k=1 then (if p.lives=false then 1 else if p.asks=true/\p.took=true then 5 else 0)
 else if p.lives=false\/p.asks=true\/e.ok<1\/4<e.ok then 1 else 0
def jG (p:Pt) (e:Ev):Pt:=
 if dF p e≠0 then p
 else if e.k=0 then {p with was:=true,lives:=true}
 else if e.k=1 then {p with lives:=false,asks:=false}
 else ⟨true,true,true,e.ok,e.oa,e.on,false,false,0,false⟩
def mayT (p:Pt):Bool:=decide (p.k=1)||(decide (p.k=3)&&p.gave)
def TF (W:Int) (l:List Bk) (p:Pt) (e:Ev):Int:=
 if mayT p=false\/p.took=true\/lenB p.n=false\/lenV p.n≠e.n then 5 else if OB W l e.at' e.n=true then 0 else 2
def mayG (p:Pt):Bool:=decide (p.k=2)||decide (p.k=3)
def UF (l:List Bk) (p:Pt) (e:Ev):Int:=
 if mayG p=false\/p.gave=true\/e.at'≠p.a then 5 else if WA e.at' l=true then 0 else 3
def FE (p:Pt) (at':Int):Bool:=if p.k=1\/p.k=3 then p.took&&(at'==p.at') else if p.k=2 then p.gave&&(at'==0) else at'==0
def GF (p:Pt):Bool:=if p.k=1 then !lenB p.n else if p.k=2 then p.ab else if p.k=3 then p.ab || !lenB p.n else true
def JC (p:Pt) (e:Ev):Bool:=
 if e.er=0 then FE p e.at' else if p.took=true\/p.gave=true\/e.at'≠0 then false
 else if e.er=1 then GF p else if e.er=3 then p.k==1||p.k==3 else if e.er=4\/e.er=5 then p.k==4 else false
structure Wy where
 c:Int
 l:List Bk
 ps:List Pt
def whyJ (W:Int) (l:List Bk) (ps:List Pt) (e:Ev):Wy:=
 if e.c<0\/(ps.length:Int)<=e.c\/e.k<0\/5<e.k then ⟨1,l,ps⟩
 else if e.k<3 then ⟨dF (ps.getD e.c.toNat Pt.zero) e,l,ps.set e.c.toNat (jG (ps.getD e.c.toNat Pt.zero) e)⟩
 else if (ps.getD e.c.toNat Pt.zero).lives=false\/(ps.getD e.c.toNat Pt.zero).asks=false then ⟨1,l,ps⟩
 else if e.k=3 then
  (if TF W l (ps.getD e.c.toNat Pt.zero) e=0 then ⟨0,putB l e.at' e.n,ps.set e.c.toNat {ps.getD e.c.toNat Pt.zero with took:=true,at':=e.at'}⟩ else ⟨TF W l (ps.getD e.c.toNat Pt.zero) e,l,ps⟩)
 else if e.k=4 then
  (if UF l (ps.getD e.c.toNat Pt.zero) e=0 then ⟨0,nB l e.at',ps.set e.c.toNat {ps.getD e.c.toNat Pt.zero with gave:=true}⟩ else ⟨UF l (ps.getD e.c.toNat Pt.zero) e,l,ps⟩)
 else if JC (ps.getD e.c.toNat Pt.zero) e=true then ⟨0,l,ps.set e.c.toNat {ps.getD e.c.toNat Pt.zero with asks:=false}⟩ else ⟨4,l,ps⟩
def abP (l:List Bk) (p:Pt):Pt:=if WA p.a l=false/\p.asks=true then {p with ab:=true} else p
structure Jd where
 W:Int
 l:List Bk
 ps:List Pt
 m:Int
 at':Int
 why:Int
def NH (j:Jd) (e:Ev):Bool:=decide (j.why=0)&&decide ((whyJ j.W j.l j.ps e).c=0)
def DA (j:Jd) (e:Ev):Jd:=
 if j.why≠0 then j
 else if (whyJ j.W j.l j.ps e).c≠0 then {j with l:=(whyJ j.W j.l j.ps e).l,ps:=(whyJ j.W j.l j.ps e).ps,at':=j.m,why:=(whyJ j.W j.l j.ps e).c}
 else {j with l:=(whyJ j.W j.l j.ps e).l,ps:=(whyJ j.W j.l j.ps e).ps.map (abP (whyJ j.W j.l j.ps e).l),m:=j.m+1}
def newJ (p c m:Int):Jd:=if mayB p c m=true then ⟨p*64,[],List.replicate c.toNat Pt.zero,0,-1,0⟩ else ⟨0,[],[],0,-1,0⟩
def runJ (j:Jd) (es:List Ev):Jd:=es.foldl DA j
theorem bH(j:Jd)(a b:List Ev):runJ j (a++b)=runJ (runJ j a) b:=by simp[runJ]
theorem rJ(j:Jd)(e:Ev)(b:List Ev):runJ j (e::b)=runJ (DA j e) b:=rfl
theorem GR(j:Jd)(e:Ev)(b:List Ev):runJ j (b++[e])=DA (runJ j b) e:=by simp[runJ]
theorem yit{j:Jd}(h:j.why≠0)(e:Ev):DA j e=j:=by unfold DA;rw[jP h]
theorem yir{j:Jd}(h:j.why≠0)(es:List Ev):runJ j es=j:=by
 induction es with
 |nil=>rfl
 |cons e es f=>rw[rJ,yit h,f]
theorem dJ(j:Jd)(e:Ev):NH j e=true↔j.why=0/\(whyJ j.W j.l j.ps e).c=0:=by simp[NH]
theorem FL{j:Jd}{e:Ev}(h:NH j e=true):DA j e={j with l:=(whyJ j.W j.l j.ps e).l,ps:=(whyJ j.W j.l j.ps e).ps.map (abP (whyJ j.W j.l j.ps e).l),m:=j.m+1}:=by
 obtain⟨h1,h2⟩:=(dJ j e).1 h;unfold DA;rw[jN (by omega),jN (by omega)]
theorem AN{F:Nat->Prop}{w:World}{q:Nat}{s:Sh}{k:Kl}(h:KlO F w q s k):Calls Tryz.prog 25 #[some q] w λe w'=>e=.returned (.bool k.rests)/\w'=w:=by
 have i:=hd' h.rests;clear h;have l:∀W:World,(binOp .neq 57 (.pointer (some ⟨q,0,.none⟩)) (.pointer none)).run Tryz.prog W=.ok (.bool true) W:=λW=>by kernel_rfl
 generalize k.rests=r at*;go_in;go_wp2_with (go_at_call 66;(with_reducible refine i.out.mono ?_);rintro r n ⟨rfl,j⟩;obtain rfl:=j.symm);go_returns;exact⟨rfl,rfl⟩
structure CW (B:Nat) (F:Nat->Prop) (W:World) (q p b:Nat) (s:Sh) (k:Kl) (m:Mem):Prop where
 kl:KlO F W q s k
 wd:oA W p b m
 fp:¬F p
 fb:¬F b
 lo:∀i,F i->B<=i
 lp:B<=p
 lb:B<=b
 ok:klOk s k
 fi:Fits s m
section

variable {B:Nat}{F:Nat->Prop}{W W':World}{q p b:Nat}{s:Sh}{k:Kl}{m:Mem}

theorem CW.below(h:CW B F W q p b s k m)(hb:Below W.heap.size W W'):CW B F W' q p b s k m:=⟨h.kl.below hb,h.wd.below hb,h.fp,h.fb,h.lo,h.lp,h.lb,h.ok,h.fi⟩
theorem CW.only{G:Nat->Prop}(h:CW B F W q p b s k m)(j:Only G W W')(f:∀i,G i->¬F i/\i≠p/\i≠b):CW B F W' q p b s k m:=
 ⟨h.kl.only j (λi hi l=>(f i l).1 hi),h.wd.only j (λe=>(f p e).2.1 rfl) (λe=>(f b e).2.2 rfl),h.fp,h.fb,h.lo,h.lp,h.lb,h.ok,h.fi⟩
theorem zH{p:Nat}(h:¬F p)(f:p<W.heap.size):¬grow F W W' p:=λe=>by
 rcases e with e|e
 .exact h e
 .omega
structure LO (B:Nat) (F:Nat->Prop) (W W':World) (q p b:Nat) (s:Sh) (k:Kl) (m:Mem) (r:Ending):Prop where
 ret:∃v,r=.returned (.tuple #[v,.int .i64 (k.step s m).2.2.2])/\W'.ownsRow W.heap.size 62 8 v (k.step s m).2.2.1.length ((k.step s m).2.2.1.flatMap λe=>e.cells.toList)
 cw:CW B (grow F W W') W' q p b s (k.step s m).1 (k.step s m).2.1
 only:Only (λi=>F i\/i=p\/i=b) W W'
 below:Below B W W'
theorem UY(h:CW B F W q p b s k m)(o:B<=W.heap.size)(hs:m.st<1000000000):
  Calls Tryz.prog 93 #[some q,some p] W λr w'=>LO B F W w' q p b s k m r:=by
 have y:=h.fi.may;have hb:=h.fi.bd;have key:∀r w',BK F q p b W w' r s k m->klOk s (k.step s m).1->Fits s (k.step s m).2.1->LO B F W w' q p b s k m r:=λr w' hS l t=>by
  refine⟨hS.ret,⟨hS.kl,hS.wds,zH h.fp h.wd.ltp,zH h.fb h.wd.ltb,λi hi=>?_,h.lp,h.lb,l,t⟩,hS.only,hS.only.below o (λi hi=>?_)⟩
  .rcases hi with hi|hi
   .exact h.lo i hi
   omega
  rcases hi with hi|rfl|rfl
  .exact h.lo i hi
  .exact h.lp
  exact h.lb
 rcases hj:k.job with _|j
 .refine(zuq h.kl h.wd hj).mono λr w' hS=>key r w' hS ?_ ?_
  .have e:k.step s m=(k,m,[],2):=by unfold Kl.step;rw[hj]
   rw[e];exact h.ok
  have e:k.step s m=(k,m,[],2):=by unfold Kl.step;rw[hj]
  rw[e];exact h.fi
 have l:=OW h.ok hj h.fi h.wd.fit;have n:=cU h.ok (by omega) hj;refine(zty h.kl h.wd h.fp h.fb h.fi h.wd.fit hj (h.ok.jb j hj).1 (h.ok.jb j hj).2.1 h.ok.cl ⟨h.ok.st,by omega⟩ hs).mono λr w' hS=>key r w' hS l.2 (l.1.fits h.fi)
structure ygo (B:Nat) (F:Nat->Prop) (W W':World) (q p b:Nat) (s:Sh) (k:Kl) (m:Mem) (o:Op3) (r:Ending):Prop where
 ret:∃v,r=.returned (.tuple #[v,.int .i64 (k.invoke s o).2.2])/\W'.ownsRow W.heap.size 62 8 v (k.invoke s o).2.1.length ((k.invoke s o).2.1.flatMap λe=>e.cells.toList)
 cw:CW B (grow F W W') W' q p b s (k.invoke s o).1 m
 only:Only F W W'
 below:Below B W W'
theorem yfi(o:Op3)(h:CW B F W q p b s k m)(j:B<=W.heap.size):
  Calls Tryz.prog 47 #[some q,.agg #[o.k,o.a,o.n]] W λr w'=>ygo B F W w' q p b s k m o r:=by
 refine(z3l (o:=o) h.kl).mono λr w' hS=>?_;refine⟨hS.ret,⟨hS.kl,h.wd.only hS.only h.fp h.fb,zH h.fp h.wd.ltp,zH h.fb h.wd.ltb,λi hi=>?_,h.lp,h.lb,GX o h.fi.may h.ok,h.fi⟩,hS.only,hS.only.below j h.lo⟩;rcases hi with hi|hi
 .exact h.lo i hi
 omega
end

theorem AQ{w:World}{B:Nat}{v:Value}{es:List Ev}(h:w.ownsRow B 62 8 v es.length (es.flatMap λe=>e.cells.toList)):RdE w v es:=RdS.lD h
structure Cn where
 f:Int
 t:Int
 l:Int
 o:Int
 deriving DecidableEq
def Cn.zero:Cn:=⟨0,0,0,0⟩
def Cn.add (x y:Cn):Cn:=⟨x.f+y.f,x.t+y.t,x.l+y.l,x.o+y.o⟩
def Cn.sum (x:Cn):Int:=x.f+x.t+x.l+x.o
def Cn.nn (x:Cn):Prop:=0<=x.f/\0<=x.t/\0<=x.l/\0<=x.o
theorem Cn.bd{x:Cn}{n:Int}(h:x.nn)(k:x.sum<=n):(0<=x.f/\x.f<=n)/\(0<=x.t/\x.t<=n)/\(0<=x.l/\x.l<=n)/\0<=x.o/\x.o<=n:=by unfold Cn.nn Cn.sum at*;omega
theorem Cn.add_assoc(x y z:Cn):(x.add y).add z=x.add (y.add z):=by simp only[Cn.add,Int.add_assoc]
theorem Cn.add_zero(x:Cn):x.add Cn.zero=x:=by simp[Cn.add,Cn.zero]
def SE (b:Bool) (k:Int):Cn:=if b=true then ⟨0,0,k,0⟩ else ⟨0,0,0,k⟩
def Hp.slC (h:Hp) (a z i:Int):Cn:=if h.sk a i=1 then ⟨z,0,0,0⟩ else if h.sk a i=3 then ⟨0,z,0,0⟩ else SE (h.sk a i==2&&h.lv (h.sa a i)) z
def Hp.slS (h:Hp) (a z:Int):Nat->Cn
 | 0=>Cn.zero
 |i+1=>(h.slS a z i).add (h.slC a z i)
def Hp.pgC (h:Hp) (a:Int):Cn:=
 if (h.hb a || !h.pb a)=true then SE (h.hb a&&h.lv (h.hc a)) 64
 else if h.pk a=0 then ⟨64,0,0,0⟩
 else if h.pk a=2 then h.slS a (zA (h.pa a)) (mA (h.pa a)).toNat
 else ⟨0,64,0,0⟩
def Hp.cn (h:Hp):Nat->Cn
 | 0=>Cn.zero
 |k+1=>(h.cn k).add (h.pgC k)
def Bk.cells (b:Bk):List Value:=[.int .i64 b.a,.int .i64 b.n]
end Go.Proofs.YtkilokkopbajkaaGreat

/- Texts bound together: CliY CliZ WldP ActP SolP LwA LwB CliG LwC AudP AudC ActQ. -/
import Derived.Test.YtedcnffebdpmmaaGreatBu27

import Derived.Test.YtedcnffebdpmmaaGreatBu23

set_option linter.all false
set_option maxHeartbeats 4000000
set_option maxRecDepth 100000
namespace Go.Proofs.YtedcnffebdpmmaaGreat

attribute [local go_sem] zat

section

open Go.RowKit

attribute [local go_sem ↓] Go.wp_at_zero Go.wp_at_succ

theorem z8b{F:Nat->Prop}{w:World}{v:Value}{s:Sh}{cl:Int}{j:Jb}(h:JbO F w v s cl j):∃ T x,v= .iface T x:=by
 cases j<;>(obtain⟨q,e,_⟩:=h;exact⟨_,_,e⟩)
structure zyn (F:Nat->Prop) (q:Nat) (w w':World) (r:Ending) (s:Sh) (k:Kl) (o:Op3):Prop where
 ret:∃ v,r= .returned (.tuple #[v,.int .i64 (k.invoke s o).2.2])/\w'.ownsRow w.heap.size 77 8 v (k.invoke s o).2.1.length ((k.invoke s o).2.1.flatMap fun e=> e.cells.toList)
 kl:KlO (grow F w w') w' q s (k.invoke s o).1
 only:Only F w w'
 kl0:(k.invoke s o).1.job=none->KlO F w' q s (k.invoke s o).1
theorem zv4{F:Nat->Prop}{q:Nat}{s:Sh}{k:Kl}{o:Op3}{w:World}(h:KlO F w q s k)(i:k.rests=false\/(k.rests=true/\(o.k<1\/4<o.k))):
  Calls Tryz.prog 25 #[some q,.agg #[o.k,o.a,o.n]] w fun r w'=>zyn F q w w' r s k o:=by
 obtain⟨ok,oa,on⟩:=o;dsimp only at i ⊢;have z:=(Below.refl w.heap.size w).alloc lr (.cells #[ok,oa,on] 33);have E:zaa (w.alloc (.cells #[ok,oa,on] 33)) w.heap.size #[ok,oa,on] 33:=heap_alloc_new _ _;have l:=(h.below z).rests;have D:Hid (∀ W x,Below w.heap.size w W->k.invoke s ⟨ok,oa,on⟩=(k, [],x)->zyn F q w W (.returned (.tuple #[.slice none 0 0,.int .i64 x])) s k ⟨ok,oa,on⟩):=hd' fun W x hb j=>by
  refine⟨⟨_,by rw[j],?_⟩,?_,Only.of_below hb,fun _=>by rw[j];exact h.below hb⟩
  ·rw[j];exact zel _ _
  rw[j];exact(h.below hb).weak (fun b hb=>.inl hb) (zec h.lt hb.size)
 have J:∀ W:World,(binOp .eql 43 (.pointer (some ⟨q,0,.none⟩)) (.pointer none)).run Tryz.prog W= .ok (.bool false) W:=fun W=>by kernel_rfl
 have G:(k.rests=false/\k.invoke s ⟨ok,oa,on⟩=(k, [],4))\/(k.rests=true/\ok<1/\k.invoke s ⟨ok,oa,on⟩=(k, [],1))\/(k.rests=true/\decide (ok<1)=false/\4<ok/\k.invoke s ⟨ok,oa,on⟩=(k, [],1)):=by
  rcases i with i|⟨i,N⟩
  ·exact .inl ⟨i,by unfold Kl.invoke;rw[if_pos i]⟩
  have e:k.invoke s ⟨ok,oa,on⟩=(k, [],1):=by unfold Kl.invoke;rw[if_neg (by rw[i];decide),if_pos N]
  by_cases h1:ok<1
  ·exact .inr (.inl ⟨i,h1,e⟩)
  exact .inr (.inr ⟨i,decide_eq_false h1,by omega,e⟩)
 clear i h;rcases G with⟨j,C⟩|⟨j,h1,C⟩|⟨j,h1,h2,C⟩;all_goals rw[j]at l;replace l:=hd' l;replace C:=hd' C;clear j;go_in;go_upto_region 1 with fail;generalize w.alloc (.cells #[ok,oa,on] 33)=X at *;obtain⟨H,M,y⟩:=hidv w.heap.size;rw[<-y]at E ⊢;clear y;have O:H<X.heap.size:=E.lt;have L:=E.cell;go_wp2_with (go_at_call 29;(with_reducible refine l.out.mono ?_);rintro r R ⟨rfl,I⟩;obtain rfl:=I.symm);go_returns;exact D.out _ _ z C.out
theorem z4b{F:Nat->Prop}{q:Nat}{s:Sh}{k:Kl}{o:Op3}{w:World}(h:KlO F w q s k)(hj:k.job=none)(hk:1<=o.k/\o.k<=4):
  Calls Tryz.prog 25 #[some q,.agg #[o.k,o.a,o.n]] w fun r w'=>zyn F q w w' r s k o:=by
 have cb:k.rests=true:=by unfold Kl.rests;rw[hj];rfl
 have y:k.invoke s o=if ziu s k.c o.k o.a o.n=true then({k with op:=o,told:=false,steps:=0}, [zbh k.c o,zaf k.c o 0 (zjw s k.c o.k o.a o.n)],0) else({k with op:=o,told:=false,steps:=0,job:=some (zgl s k.c k.first o.k o.a o.n)}, [zbh k.c o],0):=by unfold Kl.invoke;rw[if_neg (by rw[cb];decide),if_neg (by omega)]
 have b9:=(Below.refl w.heap.size w).alloc lr (.cells #[o.k,o.a,o.n] 33);have hH:zaa (w.alloc (.cells #[o.k,o.a,o.n] 33)) w.heap.size #[o.k,o.a,o.n] 33:=heap_alloc_new _ _;have bg:=(h.below b9).rests;rw[cb]at bg;replace bg:=hd' bg;have ev:∀ W:World,(binOp .eql 43 (.pointer (some ⟨q,0,.none⟩)) (.pointer none)).run Tryz.prog W= .ok (.bool false) W:=fun W=>by kernel_rfl
 obtain⟨hF,hq,sp,sl,jv,G,bh,bj,N,hG,_,_⟩:=h;have hi:(!k.job.isSome)=true:=by rw[hj];rfl
 rw[hi]at bh;have cp:zdv k= []:=by unfold zdv;rw[hj]
 rw[cp]at bj;have J:∀ i,(i=q\/foot sp sl i)->i<w.heap.size:=fun i hi=>by rcases hi with rfl|hi;exact hF _ hq;exact hF i (N i hi).1
 have z:=fun W=>zyq s k.c o.k o.a o.n W hk;have E:=fun (W:World) (i:Bool) (jv:Value) (hr:zaa W q (zat s {k with op:=o,told:=false,steps:=0} i jv (.pointer (some ⟨sp,0,.none⟩))) 122)=>zue (k:= {k with op:=o,told:=false,steps:=0}) hr hk
 have O:=hd' (fun (W:World) (v:Value) (hB:ziu s k.c o.k o.a o.n=true) (hr:zaa W q (zat s {k with op:=o,told:=false,steps:=0} true .nilIface (.pointer (some ⟨sp,0,.none⟩))) 122) (hs:SK 0 W sp (.slice none 0 0) 1 []) (ho:Only F w W) (hv:W.ownsRow w.heap.size 77 8 v 2 ((zbh k.c o).cells.toList++(zaf k.c o 0 (zjw s k.c o.k o.a o.n)).cells.toList))=>(by
  rw[if_pos hB]at y
  have h0:KlO F W q s {k with op:=o,told:=false,steps:=0}:=by
   refine⟨fun i hi=>Nat.lt_of_lt_of_le (hF i hi) ho.size,hq,sp,.slice none 0 0,.nilIface,fun _=>False,?_,?_,fun i hi=>?_,fun i hi=>hi.elim,fun _=>rfl,fun x hx=>?_⟩
   ·have e:(!k.job.isSome)=true:=hi
    show zaa W q (zat s _ (!k.job.isSome) _ _) _
    rw[e];exact hr
   ·have e:zdv {k with op:=o,told:=false,steps:=0}= []:=by unfold zdv;rw[show ({k with op:=o,told:=false,steps:=0}:Kl).job=none from hj]
    rw[e];exact hs
   ·rcases hi with rfl|hi
    ·exact⟨(N _ (.inl rfl)).1,(N _ (.inl rfl)).2⟩
    ·cases hi
   ·have hx:k.job=some x:=hx
    rw[hj]at hx;exact absurd hx (fun e=>by cases e)
  exact⟨⟨v,by rw[y],by rw[y];exact hv⟩,by rw[y];exact h0.weak (fun _ hi=>.inl hi) (zec hF ho.size),ho,fun _=>by rw[y];exact h0⟩:zyn F q w W (.returned (.tuple #[v,.int .i64 0])) s k o))
 have b1:=hd' (fun (W:World) (v jv D:Value) (H:Nat->Prop) (hB:ziu s k.c o.k o.a o.n=false) (hr:zaa W q (zat s {k with op:=o,told:=false,steps:=0} false jv (.pointer (some ⟨sp,0,.none⟩))) 122) (hs:SK 0 W sp D 1 [⟨o.k,0, [o.a,o.n,0,0,0,0,0,0]⟩]) (e9:∀ i,foot sp D i->foot sp sl i\/(w.heap.size<=i/\i<W.heap.size)) (hH:∀ i,H i->w.heap.size<=i/\i<W.heap.size) (hd:∀ i,H i->¬ foot sp D i) (hJ:JbO H W jv s k.c (zgl s k.c k.first o.k o.a o.n)) (ho:Only F w W) (hv:W.ownsRow w.heap.size 77 8 v 1 (zbh k.c o).cells.toList)=>(by
  rw[if_neg (by rw[hB];decide)]at y
  refine⟨⟨v,by rw[y],?_⟩,?_,ho,fun e=>by rw[y]at e;exact absurd e (fun e=>by cases e)⟩
  ·rw[y];exact hv
  ·rw[y]
   refine⟨zec hF ho.size,.inl hq,sp,D,jv,H,hr,hs,fun i hi=>?_,fun i hi=>⟨.inr (hH i hi),fun e=>by have:=J i (.inl e);have:=hH i hi;omega,hd i hi⟩,fun e=>(by cases e),fun x hx=>?_⟩
   ·rcases e9 i hi with l|l
    ·exact⟨.inl (N i l).1,(N i l).2⟩
    ·exact⟨.inr l,fun e=>by have:=J i (.inl e);omega⟩
   ·injection hx with hx
    subst hx
    exact hJ:zyn F q w W (.returned (.tuple #[v,.int .i64 0])) s k o))
 clear y cb hi cp hj;have C:=bh.below b9;have bp:=bj.below b9;generalize bx:ziu s k.c o.k o.a o.n=ob at *;generalize zjw s k.c o.k o.a o.n=oe at *;obtain⟨ok,oa,on⟩:=o;obtain⟨kc,kf,⟨f6,f5,f7⟩,kj,kt,ks⟩:=k;dsimp only at z E O b1 ⊢;generalize zgl s kc kf ok oa on=jn at *;obtain⟨cf,sc,sm⟩:=s;dsimp only[zat]at C E O b1 z;clear bh bj bx;go_in;go_upto_region 1 with fail;generalize w.alloc (.cells #[ok,oa,on] 33)=X at *;obtain⟨H,ez,c6⟩:=hidv w.heap.size;rw[<-c6]at hH ⊢;have f0:w.heap.size<=H:=by omega
 clear c6;have lH:H<X.heap.size:=hH.lt;have cu:=hH.cell;have e4:decide (ok<1)=false:=decide_eq_false (by have:1<=ok:=hk.1;omega);have e5:decide (4<ok)=false:=decide_eq_false (by have:ok<=4:=hk.2;omega);have ep:q<X.heap.size:=C.lt;have fX:=zax C;have cv:=C.cell;have e7:H≠q:=fun e=>by have:=J q (.inl rfl);omega
 go_upto_region 8 with(go_at_call 29;(with_reducible refine bg.out.mono ?_);rintro r w1 ⟨rfl,ec⟩;obtain rfl:=ec.symm);have T:zaa ((((((X.setCell ⟨q,5,.none⟩ (.int .i64 ok)).setCell ⟨q,6,.none⟩ (.int .i64 oa)).setCell ⟨q,7,.none⟩ (.int .i64 on)).setCell ⟨q,9,.none⟩ (.bool false)).setCell ⟨q,10,.none⟩ (.bool false)).setCell ⟨q,12,.none⟩ (.int .i64 0)) q #[cf,sc,sm,kc,kf,ok,oa,on,jv,.bool false,.bool false,some sp,.int .i64 0] 122:=((((((C.set 5 (.int .i64 ok)).set 6 (.int .i64 oa)).set 7 (.int .i64 on)).set 9 (.bool false)).set 10 (.bool false)).set 12 (.int .i64 0));have oq:Only (fun i=>i=q) X ((((((X.setCell ⟨q,5,.none⟩ (.int .i64 ok)).setCell ⟨q,6,.none⟩ (.int .i64 oa)).setCell ⟨q,7,.none⟩ (.int .i64 on)).setCell ⟨q,9,.none⟩ (.bool false)).setCell ⟨q,10,.none⟩ (.bool false)).setCell ⟨q,12,.none⟩ (.int .i64 0)):=Only.setCell (F:=fun i=>i=q) (Only.setCell (F:=fun i=>i=q) (Only.setCell (F:=fun i=>i=q) (Only.setCell (F:=fun i=>i=q) (Only.setCell (F:=fun i=>i=q) (Only.setCell (F:=fun i=>i=q) (Only.refl _ _) (.inl rfl) _) (.inl rfl) _) (.inl rfl) _) (.inl rfl) _) (.inl rfl) _) (.inl rfl) _;have bk:=oq.stk bp (fun i hi e=>(N i hi).2 e);have bu:=hH.only oq e7;have cc:Only (fun i=>i=q\/foot sp sl i) w ((((((X.setCell ⟨q,5,.none⟩ (.int .i64 ok)).setCell ⟨q,6,.none⟩ (.int .i64 oa)).setCell ⟨q,7,.none⟩ (.int .i64 on)).setCell ⟨q,9,.none⟩ (.bool false)).setCell ⟨q,10,.none⟩ (.bool false)).setCell ⟨q,12,.none⟩ (.int .i64 0)):=(Only.of_below b9).trans oq (fun i _ hi=>.inl hi);have eb:=oq.size;generalize ((((((X.setCell ⟨q,5,.none⟩ (.int .i64 ok)).setCell ⟨q,6,.none⟩ (.int .i64 oa)).setCell ⟨q,7,.none⟩ (.int .i64 on)).setCell ⟨q,9,.none⟩ (.bool false)).setCell ⟨q,10,.none⟩ (.bool false)).setCell ⟨q,12,.none⟩ (.int .i64 0))=w2 at *;clear C bp hH b9 lH cu e4 e5 ep fX cv bg oq;have ck:w.heap.size<=w2.heap.size:=cc.size;have ek:q<w2.heap.size:=T.lt;have eh:H<w2.heap.size:=bu.lt;have bA:Below w2.heap.size w2 (w2.alloc (.cells #[oa,on] 2)).drew:=(br.alloc lr _).drew;have hA:zaa (w2.alloc (.cells #[oa,on] 2)).drew w2.heap.size #[oa,on] 2:=zaa.drew (heap_alloc_new _ _)
 have S:Calls Tryz.prog 54 #[some sp,ok,.slice (some ⟨w2.heap.size,0,.none⟩) 2 2] (w2.alloc (.cells #[oa,on] 2)).drew fun e w'=>e= .returned (.bool true)/\Only (foot sp sl) (w2.alloc (.cells #[oa,on] 2)).drew w'/\∃ D,(∀ k,D.ownBlock=some k->sl.ownBlock=some k\/(w2.alloc (.cells #[oa,on] 2)).drew.heap.size<=k)/\SK 0 w' sp D 1 [⟨ok,0, [oa,on,0,0,0,0,0,0]⟩]:=zt0 (w:=(w2.alloc (.cells #[oa,on] 2)).drew) (code:=ok) (ao:=some ⟨w2.heap.size,0,.none⟩) (zs:= [oa,on]) (cap:=2) (bk.below bA) (by simp) (by simp) (Nat.zero_le _) (by decide) (fun a ha j v hv=>by
  injection ha with ha
  subst ha
  rw[zqn,Nat.zero_add,hA.cell j]
  rcases j with _|_|j
  ·exact hv
  ·exact hv
  ·simp at hv) (fun e=>by cases e)
 replace S:=hd' S;have U:=T.drew;have b7:=bu.drew;have b3:=T.below bA;have c8:=bu.below bA;have hS:=hd' (fun (Y:World) (hr:zaa Y q #[cf,sc,sm,kc,kf,ok,oa,on,jv,.bool false,.bool false,some sp,.int .i64 0] 122) (hb:zaa Y H #[ok,oa,on] 33)=>(⟨hr.cell 11,hb.cell 0,hb.cell 1,hb.cell 2⟩:Y.cell? ⟨q,11,.none⟩=some (.pointer (some ⟨sp,0,.none⟩))/\Y.cell? ⟨H,0,.none⟩=some (.int .i64 ok)/\Y.cell? ⟨H,1,.none⟩=some (.int .i64 oa)/\Y.cell? ⟨H,2,.none⟩=some (.int .i64 on)));have bf:¬ foot sp sl q:=fun e=>(N q e).2 rfl;have ch:¬ foot sp sl H:=fun e=>by have:=J H (.inr e);omega
 go_region_held3 (fun Y=>Y.cell? ⟨q,11,.none⟩=some (.pointer (some ⟨sp,0,.none⟩))/\Y.cell? ⟨H,0,.none⟩=some (.int .i64 ok)/\Y.cell? ⟨H,1,.none⟩=some (.int .i64 oa)/\Y.cell? ⟨H,2,.none⟩=some (.int .i64 on))
  (first|exact hS.out _ U b7|exact hS.out _ b3 c8|exact hS.out _ (U.alloc _) (b7.alloc _)|exact hS.out _ L b8)
  (first|(go_at_call 54;(with_reducible refine S.out.mono ?_);rintro r w3 ⟨rfl,bz,D,c7,b4⟩;have L:=b3.only bz bf;have b8:=c8.only bz ch))
 have bq:Only (fun i=>i=q\/foot sp sl i) w w3:=(cc.trans (Only.of_below (F:=fun _=>False) bA) (fun _ _ l=>l.elim)).trans bz (fun i _ hi=>.inr hi);have cr:∀ i,foot sp D i->foot sp sl i\/(w.heap.size<=i/\i<w3.heap.size):=fun i hi=>by
  rcases hi with rfl|hi
  ·exact .inl (.inl rfl)
  rcases c7 i hi with l|l
  ·exact .inl (.inr l)
  have h1:=bA.size;exact .inr ⟨by omega,(b4.zem i hi).2⟩
 clear T bk bu cc eb ck ek eh bA hA S U b7 b3 c8 hS bz c7 ch bf;go_upto_region 9 with fail;have ck:w.heap.size<=w3.heap.size:=bq.size;have el:q<w3.heap.size:=L.lt;have ei:H<w3.heap.size:=b8.lt;have cx:=b8.cell;have cy:=L.cell;refine wret 6 ?_;repeat (go_big_quiet_step (fail))
 refine wqn fun w4 I=>?_;have bi:=L.below I;have bm:=b4.below I;have cg:=b8.below I;have cs:=bq.trans (Only.of_below (F:=fun _=>False) I) (fun _ _ l=>l.elim);have f1:=I.size;clear L b4 b8 bq el ei cx cy;go_upto_region 10 with fail;have bb:Below w4.heap.size w4 (w4.alloc (.cells (zbh kc ⟨ok,oa,on⟩).cells 77)):=br.alloc lr _;have R:(w4.alloc (.cells (zbh kc ⟨ok,oa,on⟩).cells 77)).ownsRow w.heap.size 77 8 (.slice (some ⟨w4.heap.size,0,.none⟩) 1 1) 1 (zbh kc ⟨ok,oa,on⟩).cells.toList:=World.ownsRow_lit w4 (zbh kc ⟨ok,oa,on⟩).cells 1 (by omega) (by decide) rfl;have M:=bi.below bb;have b5:=bm.below bb;have bv:=cg.below bb;have c4:=cs.trans (Only.of_below (F:=fun _=>False) bb) (fun _ _ l=>l.elim);have cq:w4.heap.size<(w4.alloc (.cells (zbh kc ⟨ok,oa,on⟩).cells 77)).heap.size:=by rw[size_alloc];omega
 dsimp only[zbh,Ev.cells]at M b5 bv c4 R cq;generalize w4.alloc (.cells #[.int .i64 2,kc,ok,oa,on,.int .i64 0,.int .i64 0,.int .i64 0] 77)=w5 at *;clear bi bm cg cs bb;obtain⟨B,e1,c5⟩:=hidv w4.heap.size;rw[<-c5]at R cq ⊢;have ey:w.heap.size<=B:=by omega
 have ex:w3.heap.size<=B:=by omega
 clear c5 e1;have eu:w.heap.size<=w5.heap.size:=c4.size;have b0:∀ i,foot sp D i->foot sp sl i\/(w.heap.size<=i/\i<B):=fun i hi=>by
  rcases cr i hi with l|l
  ·exact .inl l
  exact .inr ⟨l.1,by omega⟩
 have em:q<w5.heap.size:=M.lt;have ej:H<w5.heap.size:=bv.lt;have cz:=bv.cell;have e0:=M.cell;replace z:=hd' z;refine wre ?_;repeat (go_big_quiet_step (((go_at_call 55;exact zam (z.out _)))))
 refine wqn fun w6 I=>?_;have V:=M.below I;have bn:=b5.below I;have bs:=c4.trans (Only.of_below (F:=fun _=>False) I) (fun _ _ l=>l.elim);have b2:=zav R I;have f2:=I.size;clear M b5 c4 R cz e0 em ej z bv;obtain⟨i0,e3,ed,ef,eg⟩:=info_parts zdb;have bf:¬ foot sp D q:=fun e=>by
  rcases b0 q e with l|l
  ·exact(N q l).2 rfl
  have:=J q (.inl rfl);omega
 have e2:¬ foot sp D B:=fun e=>by
  rcases b0 B e with l|l
  ·have:=J B (.inr l);omega
  omega
 have e6:B≠q:=fun e=>by have:=J q (.inl rfl);omega
 cases ob;case true=>
  have b6:=zbn (s:=⟨cf,sc,sm⟩) (k:=⟨kc,kf,⟨ok,oa,on⟩,kj,false,0⟩) (i:=false) (jv:=jv) oe 0 V bn bf;dsimp only[zat,Ev.val,Ev.cells,zaf]at b6;replace b6:=hd' b6;have cl:w.heap.size<=w6.heap.size:=bs.size;go_wp2_with (first|(go_at_call 56;(with_reducible refine b6.out.mono ?_);rintro r w8 ⟨rfl,h8,e8,cd⟩;have bc:=zas b2 (fun i hi=>cd.block i (b2.lt i hi).2 (fun e=>by(have:B=i:=by injection hi);subst this;exact e.elim e6 e2));have cm:w.heap.size<=w8.heap.size:=Nat.le_trans cl cd.size)|(refine zay rfl (.tmp 71) (.tmp 75) 57 rfl w.heap.size 77 i0 _ 8 64 Tryz.underlying57 e3 ed ef eg rfl (by omega) _ 1 (zbh kc ⟨ok,oa,on⟩).cells.toList rfl (zav bc (br.alloc lr _)) _ 1 (zaf kc ⟨ok,oa,on⟩ 0 oe).cells.toList rfl (evRd (zaf kc ⟨ok,oa,on⟩ 0 oe) _) (zfo _) (by simp only[maxLen];omega) (by omega) (by simp;omega) ?_;intro v9 w9 ca bw es;have c9:=zaw ((Below.refl w.heap.size w8).alloc cm (.cells (zaf kc ⟨ok,oa,on⟩ 0 oe).cells 77)) (zav bc (br.alloc lr _)) (by simp;omega) bw));go_returns;have lq:=J q (.inl rfl)
  have er:Only (fun i=>i=q\/foot sp sl i) w w9:=zfp (bs.trans cd (fun i hi l=>by
   rcases l with l|l
   ·exact .inl l
   ·rcases b0 i l with e|e
    ·exact .inr e
    ·omega)) c9
  exact O.out w9 v9 trivial (h8.belB c9 lq) ((zdy c9).stk e8 (fun i hi e=>by
   rcases hi with rfl|hi
   ·have:=J _ (.inr (.inl rfl));omega
   ·cases hi)) (er.weak (fun i hi=>by
   rcases hi with rfl|hi
   ·exact hq
   ·exact(N i hi).1)) ca
 case false=>
  have ea:=hd' (E w6 false jv V);have l6:q<w6.heap.size:=V.lt;clear O E;go_wp2_with (first|(go_at_call 57;(with_reducible refine ea.out.mono ?_);rintro r w7 ⟨f4,rfl,cj,ba⟩;obtain⟨T2,x2,rfl⟩:=z8b cj;have Z:=V.below ba;have ew:=Z.cell;have zf:=zax Z;have l7:=Z.lt));go_returns;have lq:=J q (.inl rfl);have f3:=ba.size;have hW:(w7.setCell ⟨q,8,.none⟩ (.iface T2 x2)).heap.size=w7.heap.size:=size_set _ _ _;have oq:Only (fun i=>i=q) w7 (w7.setCell ⟨q,8,.none⟩ (.iface T2 x2)):=Only.setCell (F:=fun i=>i=q) (Only.refl _ _) (.inl rfl) _;refine b1.out _ _ (.iface T2 x2) D (fun i=>w6.heap.size<=i/\i<w7.heap.size) trivial (Z.set 8 (.iface T2 x2)) (oq.stk (bn.below ba) (fun i hi e=>bf (e ▸ hi))) (fun i hi=>?_) (fun i hi=>⟨Nat.le_trans bs.size hi.1,by rw[hW];exact hi.2⟩) (fun i hi e=>?_) (cj.only oq (fun i hi e=>by omega)) ?_ ?_
  ·rcases b0 i hi with l|l
   ·exact .inl l
   exact .inr ⟨l.1,by omega⟩
  ·rcases b0 i e with l|l
   ·have:=J i (.inr l);have:=bs.size;omega
   omega
  ·refine((bs.trans (Only.of_below (F:=fun _=>False) ba) (fun _ _ l=>l.elim)).trans oq (fun i _ l=>.inl l)).weak (fun i hi=>?_);rcases hi with rfl|hi
   ·exact hq
   exact(N i hi).1
  exact zkk (zav b2 ba) oq (fun i hi e=>by omega)
theorem z3l{F:Nat->Prop}{q:Nat}{s:Sh}{k:Kl}{o:Op3}{w:World}(h:KlO F w q s k):
  Calls Tryz.prog 25 #[some q,.agg #[o.k,o.a,o.n]] w fun r w'=>zyn F q w w' r s k o:=by
 rcases hj:k.job with _|j
 ·have i:k.rests=true:=by unfold Kl.rests;rw[hj];rfl
  by_cases l:1<=o.k/\o.k<=4
  ·exact z4b h hj l
  exact zv4 h (.inr ⟨i,by omega⟩)
 have i:k.rests=false:=by unfold Kl.rests;rw[hj];rfl
 exact zv4 h (.inl i)
def z9c (w w':World) (e:Ending) (s:Sh) (c:Int) (x:Nat):Prop:=Below w.heap.size w w'/\
 if zae s.p s.c s.m c < 0 then e= .returned (.pointer none) else ∃ q,e= .returned (.pointer (some ⟨q,0,.none⟩))/\KlO (fun i=> w.heap.size<=i/\i < w'.heap.size) w' q s (zht c (Fl.zdr x s.p))
theorem z0k(s:Sh)(c:Int)(x:Nat)(w:World)(hp: -9223372036854775808<=s.p/\s.p<=9223372036854775807):
  Calls Tryz.prog 50 #[.agg #[s.p,s.c,s.m],c,F64 x] w fun e w'=>z9c w w' e s c x:=by
 have z:=fun W=>zau s.p s.c s.m c W;have D:=fun W=>z4a x s.p hp.1 hp.2 W;have L:=fun W=>zxv 1 W;unfold z9c
 have I:=hd' (fun (Y W:World) (E S:Nat) (hb:Below w.heap.size w W) (hS:w.heap.size<=S) (hE:w.heap.size<=E) (T:E≠S) (M:zaa W E (zat s (zht c (Fl.zdr x s.p)) true .nilIface (.pointer (some ⟨S,0,.none⟩))) 122) (hs:zaa W S #[.slice none 0 0,.int .i64 1] 165)=>(by
  refine⟨fun i hi=>hi.2,⟨hE,M.lt⟩,S,.slice none 0 0,.nilIface,fun _=>False,M,⟨Nat.zero_le _,hs,World.ownsRow_nil _ _ _ _,by simp[Value.ownBlock],fun f hf=>by cases hf⟩,fun i hi=>?_,fun i hi=>hi.elim,fun _=>rfl,fun j hj=>by cases hj⟩
  rcases hi with rfl|hi
  ·exact⟨⟨hS,hs.lt⟩,fun e=>T e.symm⟩
  ·exact absurd hi (fun e=>by cases e):KlO (fun i=>w.heap.size<=i/\i<W.heap.size) W E s (zht c (Fl.zdr x s.p))))
 generalize zae s.p s.c s.m c=sx at *;generalize Fl.zdr x s.p=sh at *;obtain⟨sp,o,y⟩:=s;dsimp only[zat,zht,Op3.zero]at z D I ⊢;replace z:=hd' z;replace D:=hd' D;replace L:=hd' L;have J:=(Below.refl w.heap.size w).alloc lr (.cells #[sp,o,y] 23);have N:zaa (w.alloc (.cells #[sp,o,y] 23)) w.heap.size #[sp,o,y] 23:=heap_alloc_new _ _;go_in;go_upto_region 1 with fail;generalize w.alloc (.cells #[sp,o,y] 23)=X at *;obtain⟨H,b0,G⟩:=hidv w.heap.size;rw[<-G]at N ⊢;have b1:w.heap.size<=H:=by omega
 clear G;have lH:H<X.heap.size:=N.lt;have R:=N.cell;by_cases hs:sx<0
 ·go_wp2_with (go_at_call 22;(with_reducible refine(z.out _).mono ?_);rintro r l ⟨rfl,C⟩);go_returns;refine⟨zab J C,?_⟩;first|rfl|(rw[if_pos hs])
 have b3:decide (sx<0)=false:=decide_eq_false hs;go_upto_region 3 with(go_at_call 22;(with_reducible refine(z.out _).mono ?_);rintro r l ⟨rfl,C⟩);have t1:=N.below C;have n:=zab J C;have O:=t1.drew;have bd:=n.drew;clear lH R J N;have lH:H<l.drew.heap.size:=O.lt;have hS:=hd' (fun (Y:World) (M:zaa Y H #[sp,o,y] 23)=>(⟨M.cell 0,M.cell 1,M.cell 2⟩:Y.cell? ⟨H,0,.none⟩=some (.int .i64 sp)/\Y.cell? ⟨H,1,.none⟩=some (.int .i64 o)/\Y.cell? ⟨H,2,.none⟩=some (.int .i64 y)))
 go_region_held3 (fun Y=>Y.cell? ⟨H,0,.none⟩=some (.int .i64 sp)/\Y.cell? ⟨H,1,.none⟩=some (.int .i64 o)/\Y.cell? ⟨H,2,.none⟩=some (.int .i64 y))
  (first|exact hS.out _ O|exact hS.out _ (O.alloc _)|exact hS.out _ ((O.alloc _).alloc _))
  (first|(go_at_call 78;(with_reducible refine(D.out _).mono ?_);rintro r w2 ⟨rfl,U⟩;obtain rfl:=U.symm)|(go_at_call 79;(with_reducible refine(L.out _).mono ?_);rintro r w3 ⟨rfl,V⟩;obtain rfl:=V.symm))
 all_goals go_wp2_with fail
 go_returns;have e1:(l.alloc (.cells #[.slice none 0 0,.int .i64 1] 165)).heap.size=l.heap.size+1:=size_alloc _ _;have r1:zaa ((l.alloc (.cells #[.slice none 0 0,.int .i64 1] 165)).alloc (.cells #[sp,o,y,c,sh,.int .i64 0,.int .i64 0,.int .i64 0,.nilIface,.bool true,.bool false,some l.heap.size,.int .i64 0] 122)) l.heap.size #[.slice none 0 0,.int .i64 1] 165:=zaa.alloc (heap_alloc_new _ _) _;have r2:zaa ((l.alloc (.cells #[.slice none 0 0,.int .i64 1] 165)).alloc (.cells #[sp,o,y,c,sh,.int .i64 0,.int .i64 0,.int .i64 0,.nilIface,.bool true,.bool false,some l.heap.size,.int .i64 0] 122)) (l.heap.size+1) #[sp,o,y,c,sh,.int .i64 0,.int .i64 0,.int .i64 0,.nilIface,.bool true,.bool false,some l.heap.size,.int .i64 0] 122:=by have h:=heap_alloc_new (l.alloc (.cells #[.slice none 0 0,.int .i64 1] 165)) (.cells #[sp,o,y,c,sh,.int .i64 0,.int .i64 0,.int .i64 0,.nilIface,.bool true,.bool false,some l.heap.size,.int .i64 0] 122);rw[e1]at h;exact h
 have Z:Below w.heap.size w ((l.alloc (.cells #[.slice none 0 0,.int .i64 1] 165)).alloc (.cells #[sp,o,y,c,sh,.int .i64 0,.int .i64 0,.int .i64 0,.nilIface,.bool true,.bool false,some l.heap.size,.int .i64 0] 122)).drew:=((n.alloc n.size (.cells #[.slice none 0 0,.int .i64 1] 165)).alloc (by rw[e1];have:=n.size;omega) (.cells #[sp,o,y,c,sh,.int .i64 0,.int .i64 0,.int .i64 0,.nilIface,.bool true,.bool false,some l.heap.size,.int .i64 0] 122)).drew;refine⟨Z,?_⟩;try rw[if_neg hs]
 exact⟨_,rfl,I.out w _ (l.heap.size+1) l.heap.size Z n.size (by have:=n.size;omega) (by omega) r2.drew r1.drew⟩
end

section

structure Wd where
 m:Mem
 l:List (Option Kl)
 tr:List Ev
 lg:List Acc
def Ch.op (x:Ch):Op3:=⟨x.ok,x.oa,x.on⟩
def zcj (c:Int):Ev:=⟨0,c,0,0,0,0,0,0⟩
def zdw (c:Int):Ev:=⟨1,c,0,0,0,0,0,0⟩
def Mem.put (m:Mem) (a x:Int):Mem:=⟨m.ws.set a.toNat x,m.st,m.la⟩
def zde (s:Sh):Wd:=⟨zgj (zb6 s.p s.c s.m).toNat,List.replicate s.c.toNat none, [], []⟩
def Wd.kl (d:Wd) (c:Int):Option Kl:=if 0<=c then d.l.getD c.toNat none else none
def Wd.stat (d:Wd) (c:Int):Int:=zdc (d.m.get c)
def Wd.begin (s:Sh) (d:Wd) (x:Ch):Wd × Int:=
 if d.stat x.client=0 then (⟨d.m.put x.client (za8 1 0),d.l.set x.client.toNat (some (zht x.client (Fl.zdr x.bias s.p))),d.tr ++ [zcj x.client],d.lg⟩,0) else (d,5)
def Wd.step (s:Sh) (d:Wd) (c:Int) (k:Kl):Wd × Int:=
 (⟨(k.step s d.m).2.1,d.l.set c.toNat (some (k.step s d.m).1),d.tr ++ (k.step s d.m).2.2.1,if d.m.st < (k.step s d.m).2.1.st then d.lg ++ [(k.step s d.m).2.1.la] else d.lg⟩,(k.step s d.m).2.2.2)
def Wd.ask (s:Sh) (d:Wd) (x:Ch) (k:Kl):Wd × Int:=
 (⟨d.m,d.l.set x.client.toNat (some (k.invoke s x.op).1),d.tr ++ (k.invoke s x.op).2.1,d.lg⟩,(k.invoke s x.op).2.2)
def Wd.kill (d:Wd) (c:Int):Wd × Int:=(⟨d.m.put c (za8 2 0),d.l.set c.toNat none,d.tr ++ [zdw c],d.lg⟩,0)
def Ch.bad (s:Sh) (x:Ch):Prop:=x.kind < 1\/4 < x.kind\/x.client < 0\/s.c<=x.client
instance (s:Sh) (x:Ch):Decidable (x.bad s):=by unfold Ch.bad;infer_instance
def Wd.act (s:Sh) (d:Wd) (x:Ch):Wd × Int:=
 if x.bad s then (d,1)
 else if x.kind=1 then d.begin s x
 else match d.kl x.client with
  | none=> (d,2)
  | some k=> if x.kind=3 then d.step s x.client k else if x.kind=2 then d.ask s x k else d.kill x.client
structure wdOk (s:Sh) (d:Wd) (n:Nat):Prop where
 fi:Fits s d.m
 fit:d.m.fit
 len:d.l.length=s.c.toNat
 kl:∀ c k,d.kl c=some k->klOk s k/\k.c=c/\0<=c/\c < s.c
 st:0<=d.m.st/\d.m.st<=n
 tr:d.tr.length<=3 * n
 lg:d.lg.length=d.m.st
theorem Wd.zfs{d:Wd}{c:Int}{k:Kl}(h:d.kl c=some k):0<=c/\c.toNat<d.l.length:=by
 unfold Wd.kl at h;split at h
 ·rename_i h0;by_cases hc:c.toNat<d.l.length
  ·exact⟨h0,hc⟩
  rw[List.getD_eq_getElem?_getD,List.getElem?_eq_none (by omega)]at h;simp at h
 cases h
theorem zme{f:Type}(l:List (Option f))(i j:Nat)(v:Option f)(hi:i<l.length):(l.set i v).getD j none=if i=j then v else l.getD j none:=by
 rw[List.getD_eq_getElem?_getD,List.getD_eq_getElem?_getD,List.getElem?_set];by_cases h:i=j
 ·subst h;simp[hi]
 simp[h]
theorem Wd.zdk(d:Wd){x:Int}(f:0<=x)(hi:x.toNat<d.l.length)(v:Option Kl)(m:Mem)(tr:List Ev)(lg:List Acc)(c:Int):(⟨m,d.l.set x.toNat v,tr,lg⟩:Wd).kl c=if c=x then v else d.kl c:=by
 unfold Wd.kl;dsimp only;by_cases h0:0<=c
 ·rw[if_pos h0,if_pos h0,zme _ _ _ _ hi];by_cases h:c=x
  ·rw[if_pos (by omega),if_pos h]
  rw[if_neg (by omega),if_neg h]
 rw[if_neg h0,if_neg h0,if_neg (by omega)]
theorem Mem.z19{m:Mem}(h:m.fit)(a x:Int)(f:0<=x/\x<18446744073709551616):(m.put a x).fit:=ztw h f
theorem Kl.z0d(k:Kl)(j:Jb):(k.tells j).length<=3:=by
 unfold Kl.tells;rw[List.length_append];have h1:(if j.gave=true/\k.told=false then [zbw k.c k.op.a] else []).length<=1:=by split<;>simp
 have h2:(if j.done=true then(match j.took with|some b=>[zb5 k.c b.at' b.len]|none=>[])++[zaf k.c k.op (zb1 j.took) j.err] else []).length<=2:=by
  split
  ·rw[List.length_append];have:(match j.took with|some b=>[zb5 k.c b.at' b.len]|none=>[]).length<=1:=by cases j.took<;>simp
   simp;omega
  simp
 exact Nat.add_le_add h1 h2
theorem Kl.zw4(s:Sh)(k:Kl)(m:Mem):(k.step s m).2.2.1.length<=3:=by
 unfold Kl.step;split
 ·simp
 exact Kl.z0d _ _
theorem Kl.zo3(s:Sh)(k:Kl)(o:Op3):(k.invoke s o).2.1.length<=2:=by
 unfold Kl.invoke;split
 ·simp
 split
 ·simp
 split<;>simp
theorem zl9{s:Sh}(h:mayB s.p s.c s.m=true):wdOk s (zde s) 0:=by
 have i:0<=zb6 s.p s.c s.m:=(z6x _ _ _).1;refine⟨⟨h,?_⟩,zoj _,by simp[zde],fun c k f=>?_,⟨Int.le_refl _,Int.le_refl _⟩,by simp[zde],rfl⟩
 ·show (((List.replicate _ (0:Int)).length:Nat):Int)=_;rw[List.length_replicate];omega
 unfold Wd.kl zde at f;dsimp only at f;rw[List.getD_eq_getElem?_getD,List.getElem?_replicate]at f;split at f
 ·split at f<;>simp at f
 cases f
theorem zkh{s:Sh}{k:Kl}{m:Mem}(h:klOk s k)(l:Fits s m)(f:m.fit):(k.job=none/\k.step s m=(k,m, [],2))\/(∃ j,k.job=some j/\Acts k.c m (k.step s m).2.1/\klOk s (k.step s m).1/\(k.step s m).2.2.2=0):=by
 rcases hj:k.job with _|j
 ·exact .inl ⟨rfl,by unfold Kl.step;rw[hj]⟩
 have i:=zsh h hj l f;exact .inr ⟨j,rfl,i.1,i.2,by unfold Kl.step;rw[hj]⟩
theorem zeo{s:Sh}{d:Wd}{n:Nat}(h:wdOk s d n)(x:Ch):wdOk s (d.act s x).1 (n+1):=by
 have I:=h.fi.may;have hb:=h.fi.bd;have h1:=h.st;have h2:=h.tr;have h3:=h.lg;have h0:wdOk s d (n+1):=⟨h.fi,h.fit,h.len,h.kl,⟨h1.1,by omega⟩,by omega,h3⟩;unfold Wd.act;split
 ·exact h0
 rename_i t;unfold Ch.bad at t;have hc:0<=x.client/\x.client<s.c:=by omega
 have hi:x.client.toNat<d.l.length:=by rw[h.len];omega
 have i:∀ (v:Option Kl),(∀ k,v=some k->klOk s k/\k.c=x.client)->∀ (m:Mem) tr lg c k,(⟨m,d.l.set x.client.toNat v,tr,lg⟩:Wd).kl c=some k->klOk s k/\k.c=c/\0<=c/\c<s.c:=fun v D m tr lg c k o=>by
  rw[d.zdk hc.1 hi]at o;split at o
  ·rename_i e;subst e;exact⟨(D k o).1,(D k o).2,hc⟩
  exact h.kl c k o
 split
 ·unfold Wd.begin;split
  ·refine⟨h.fi.zh1 (by simp[Mem.put]),Mem.z19 h.fit _ _ (zdz _ _),by simpa using h.len,?_,⟨h1.1,by show d.m.st<=_;omega⟩,by simp;omega,h3⟩;exact i _ (fun k o=>by injection o with o;subst o;exact⟨z6w hc (Fl.z2u _ (by omega)),rfl⟩) _ _ _
  exact h0
 split
 ·exact h0
 rename_i k o;have r:=h.kl _ _ o;split
 ·have H:=Kl.zw4 s k d.m;have z:=(z6l s k d.m).1;unfold Wd.step;rcases zkh r.1 h.fi h.fit with⟨G,e⟩|⟨j,G,y,C,L⟩
  ·rw[e];dsimp only;rw[if_neg (by omega)];exact⟨h.fi,h.fit,by simpa using h.len,i _ (fun E f=>by injection f with f;subst f;exact⟨r.1,r.2.1⟩) _ _ _,⟨h1.1,by show d.m.st<=_;omega⟩,by simp;omega,h3⟩
  have J:=y.st;rw[if_pos (by omega)];refine⟨y.fits h.fi,y.fit h.fit,by simpa using h.len,i _ (fun E f=>by injection f with f;subst f;exact⟨C,z.trans r.2.1⟩) _ _ _,⟨by dsimp only;omega,by dsimp only;omega⟩,by simp;omega,by simp;omega⟩
 split
 ·have H:=Kl.zo3 s k x.op;unfold Wd.ask;exact⟨h.fi,h.fit,by simpa using h.len,i _ (fun E f=>by injection f with f;subst f;exact⟨zwi x.op I r.1,(yaa s k x.op).1.trans r.2.1⟩) _ _ _,⟨h1.1,by dsimp only;omega⟩,by simp;omega,h3⟩
 unfold Wd.kill;exact⟨h.fi.zh1 (by simp[Mem.put]),Mem.z19 h.fit _ _ (zdz _ _),by simpa using h.len,i _ (fun k o=>by cases o) _ _ _,⟨h1.1,by show d.m.st<=_;omega⟩,by simp;omega,h3⟩
theorem yan(l:List Ch):∀ (j:Nat) (h:j<l.length) (k:Nat),k<6->(l.flatMap Ch.cells)[j*6+k]?=(l[j]).cells[k]?:=by
 induction l with
 |nil=>intro j h;simp at h
 |cons a l n=>
  intro j h k i
  have f:a.cells.length=6:=rfl
  rw[List.flatMap_cons]
  cases j with
  |zero=>rw[Nat.zero_mul,Nat.zero_add,List.getElem?_append_left (by omega)];rfl
  |succ j=>
   rw[List.getElem?_append_right (by omega),f,show (j+1)*6+k-6=j*6+k by omega]
   exact n j (by simpa using h) k i
def Told (d:Wd) (c:Int):Prop:=∃ l e,d.tr=l ++ [e]/\e.k=5/\e.c=c
def Due (d:Wd) (c i:Int):Prop:=∃ k,d.kl c=some k/\((k.job≠none/\k.steps=i)\/(k.job=none/\Told d c))
def zjx (c:Int):Ch:=⟨3,c,0,0,0,0⟩
def Wd.goS (s:Sh) (c:Int) (d:Wd):Wd:=match d.kl c with
 | some k=> if k.job.isSome=true then (d.act s (zjx c)).1 else d
 | none=> d
def Wd.goN (s:Sh) (c:Int):Nat->Wd->Wd
 | 0,d=> d
 | n + 1,d=> (Wd.goN s c n d).goS s c
theorem z5q{s:Sh}{d:Wd}{c:Int}{k:Kl}(f:d.kl c=some k)(hc:0<=c/\c<s.c):d.act s (zjx c)=d.step s c k:=by
 unfold Wd.act;rw[if_neg (by unfold Ch.bad zjx;dsimp only;omega),if_neg (show ¬ (zjx c).kind=1 from (show ¬ (3:Int)=1 by decide))];have e:d.kl (zjx c).client=some k:=f;rw[e];exact if_pos rfl
theorem z6c{s:Sh}{d:Wd}{n:Nat}{c:Int}{k:Kl}{j:Jb}(o:wdOk s d n)(i:d.kl c=some k)(r:k.job=some j):
  (d.act s (zjx c)).2=0/\Due (d.act s (zjx c)).1 c (k.steps+1):=by
 obtain⟨y,f,hc⟩:=o.kl _ _ i;rw[z5q i hc];have hi:c.toNat<d.l.length:=by rw[o.len];omega
 have e:k.step s d.m=(k.after (j.step s k.c d.m).1,(j.step s k.c d.m).2,k.tells (j.step s k.c d.m).1,0):=by unfold Kl.step;rw[r]
 unfold Wd.step;rw[e];dsimp only;refine⟨rfl,k.after (j.step s k.c d.m).1,?_,?_⟩
 ·rw[d.zdk hc.1 hi,if_pos rfl]
 unfold Kl.after;dsimp only;by_cases hd:(j.step s k.c d.m).1.done=true
 ·rw[if_pos hd];refine .inr ⟨rfl,?_⟩
  obtain⟨l,t⟩:∃ l,d.tr++k.tells (j.step s k.c d.m).1=l++[zaf k.c k.op (zb1 (j.step s k.c d.m).1.took) (j.step s k.c d.m).1.err]:=
   ⟨_,by unfold Kl.tells;rw[if_pos hd,<- List.append_assoc,<- List.append_assoc]⟩
  exact⟨l,_,t,rfl,f⟩
 rw[if_neg hd];exact .inl ⟨by simp,rfl⟩
theorem ya0{s:Sh}{d:Wd}{n:Nat}{c i:Int}(l:wdOk s d n)(h:Due d c i)(hi:110*s.p+4*s.m+60<=i):∃ k,d.kl c=some k/\k.job=none/\Told d c:=by
 obtain⟨k,f,h1|h1⟩:=h
 ·rcases hj:k.job with _|j
  ·exact absurd hj h1.1
  have:=z8x (l.kl _ _ f).1 (by have:=l.fi.bd;omega) hj;omega
 exact⟨k,f,h1⟩
theorem zw5{s:Sh}{d:Wd}{c:Int}{k:Kl}(i:d.kl c=some k)(f:k.job=none):d.goS s c=d:=by
 unfold Wd.goS;rw[i];dsimp only;rw[f,if_neg (by simp)]
theorem z5n{s:Sh}{d:Wd}{c:Int}{k:Kl}(i:d.kl c=some k)(f:k.job≠none):d.goS s c=(d.act s (zjx c)).1:=by
 unfold Wd.goS;rw[i];dsimp only;rw[if_pos (by rcases h:k.job with _|j;exact absurd h f;rfl)]
theorem ye0{s:Sh}{d:Wd}{n:Nat}{c:Int}(f:wdOk s d n):wdOk s (d.goS s c) (n+1):=by
 have h:=zeo f (zjx c);have i:wdOk s d (n+1):=⟨f.fi,f.fit,f.len,f.kl,⟨f.st.1,by have:=f.st.2;omega⟩,by have:=f.tr;omega,f.lg⟩;unfold Wd.goS;split
 ·split
  ·exact h
  exact i
 exact i
theorem zz6{s:Sh}{d:Wd}{n:Nat}{c:Int}(f:wdOk s d n)(i:Nat):wdOk s (d.goN s c i) (n+i):=by
 induction i with
 |zero=>exact f
 |succ i j=>exact ye0 j
theorem yfl{s:Sh}{d:Wd}{c:Int}{i:Nat}{k:Kl}(j:(d.goN s c i).kl c=some k)(f:k.job=none)(m:Nat):d.goN s c (i+m)=d.goN s c i:=by
 induction m with
 |zero=>rfl;|succ m l=>show (d.goN s c (i+m)).goS s c=_;rw[l,zw5 j f]
theorem yav{s:Sh}{d:Wd}{n:Nat}{c a:Int}(l:wdOk s d n)(h:Due d c a)(i:Nat):Due (d.goN s c i) c (a+i):=by
 induction i with
 |zero=>show Due d c (a+((0:Nat):Int));rw[show a+((0:Nat):Int)=a by omega];exact h
 |succ i o=>
  obtain⟨k,f,h1|h1⟩:=o
  ·have e:d.goN s c (i+1)=((d.goN s c i).act s (zjx c)).1:=z5n f h1.1;rcases hj:k.job with _|j
   ·exact absurd hj h1.1
   rw[e];have h2:=(z6c (zz6 l i) f hj).2;rw[h1.2]at h2;rw[show a+((i+1:Nat):Int)=a+i+1 by omega];exact h2
  have e:d.goN s c (i+1)=d.goN s c i:=zw5 f h1.1;rw[e];exact⟨k,f,.inr h1⟩
theorem yct{s:Sh}{d:Wd}{n:Nat}{x:Ch}(t:wdOk s d n)(y:x.kind=2)(h:(d.act s x).2=0):0<=x.client/\x.client<s.c/\Due (d.act s x).1 x.client 0:=by
 unfold Wd.act at h ⊢;by_cases hb:x.bad s
 ·rw[if_pos hb]at h;exact absurd h (show (1:Int)≠0 by decide)
 rw[if_neg hb]at h ⊢;unfold Ch.bad at hb;have hc:0<=x.client/\x.client<s.c:=by omega
 refine⟨hc.1,hc.2,?_⟩;rw[if_neg (by omega)]at h ⊢;cases hk:d.kl x.client with
 |none=>rw[hk]at h;exact absurd h (show (2:Int)≠0 by decide);|some k=>
  rw[hk]at h;dsimp only at h ⊢;rw[if_neg (by omega),if_pos y]at h ⊢;have hi:x.client.toNat<d.l.length:=by rw[t.len];omega
  have r:=(t.kl _ _ hk).2.1;unfold Wd.ask at h ⊢;dsimp only at h ⊢;refine⟨(k.invoke s x.op).1,by rw[d.zdk hc.1 hi,if_pos rfl],?_⟩;unfold Kl.invoke at h ⊢;split at h
  ·exact absurd h (show (4:Int)≠0 by decide)
  rename_i f;split at h
  ·exact absurd h (show (1:Int)≠0 by decide)
  rename_i o;rw[if_neg f,if_neg o];have i:k.job=none:=by
   unfold Kl.rests at f;rcases hj:k.job with _|j
   ·rfl
   rw[hj]at f;simp at f
  split
  ·refine .inr ⟨i,?_⟩;exact⟨d.tr++[zbh k.c x.op],zaf k.c x.op 0 (zjw s k.c x.op.k x.op.a x.op.n),by simp,rfl,r⟩
  exact .inl ⟨by simp,rfl⟩
def z5k (s:Sh):Nat:=(110 * s.p + 4 * s.m + 60).toNat
def askW (s:Sh) (d:Wd) (c:Int) (o:Op3):Wd:=(d.act s ⟨2,c,o.k,o.a,o.n,0⟩).1.goN s c (z5k s)
def ygv (d:Wd):Int:=match d.tr.getLast? with
 | some e=> e.er
 | none=> 0
theorem yfn{s:Sh}{d:Wd}{n:Nat}{c:Int}{o:Op3}(f:wdOk s d n)(h:(d.act s ⟨2,c,o.k,o.a,o.n,0⟩).2=0):∃ k,(askW s d c o).kl c=some k/\k.job=none/\Told (askW s d c o) c:=by
 have hb:=f.fi.bd;have h1:=yct f (x:=⟨2,c,o.k,o.a,o.n,0⟩) rfl h;have h2:=yav (zeo f _) h1.2.2 (z5k s);exact ya0 (zz6 (zeo f _) _) h2 (by unfold z5k;omega)
theorem yhe{s:Sh}{d:Wd}{n:Nat}{c:Int}{o:Op3}(f:wdOk s d n):wdOk s (askW s d c o) (n+1+z5k s):=zz6 (zeo f _) _
end

section

open Go.RowKit

attribute [local go_sem ↓] Go.wp_at_zero Go.wp_at_succ

theorem yc0{c m C M:Int}(hc:0<=c/\c<=C)(f:0<=m/\m<=M):0<=c*m/\c*m<=C*M:=by
 refine⟨Int.mul_nonneg hc.1 f.1,?_⟩;exact Int.le_trans (Int.mul_le_mul_of_nonneg_right hc.2 f.1) (Int.mul_le_mul_of_nonneg_left f.2 (by omega))
theorem zoy{s:Sh}(h:mayB s.p s.c s.m=true):zb6 s.p s.c s.m=s.c+s.p+s.p*16+s.c*s.m/\18<=zb6 s.p s.c s.m/\zb6 s.p s.c s.m<=1196:=by
 have hb:=zar.1 h;have f:=yc0 (c:=s.c) (m:=s.m) (C:=12) (M:=8) (by omega) (by omega);have:zb6 s.p s.c s.m=s.c+s.p+s.p*16+s.c*s.m:=by unfold zb6;rw[if_pos h]
 omega
theorem zv0(s:Sh)(w:World):
  Calls Tryz.prog 48 #[.agg #[s.p,s.c,s.m]] w fun e w'=>e= .returned (.int .i64 (zb6 s.p s.c s.m))/\Below w.heap.size w w':=by
 obtain⟨p,c,m⟩:=s;dsimp only;by_cases h1:mayB p c m=true
 ·have hb:=zar.1 h1;have o:=yc0 (c:=c) (m:=m) (C:=12) (M:=8) (by omega) (by omega);have l:zb6 p c m=c+p+p*16+c*m:=by unfold zb6;rw[if_pos h1]
  have n:=wrp (c+p);have r:=wrp (16*p);have t:=wrp (c+p+16*p);have y:=wrp (c*m);have z:=wrp (c+p+16*p+c*m);have i:=fun W=>refMay_any p c m W;rw[h1]at i;replace i:=hd' i;rw[show zb6 p c m=c+p+16*p+c*m by omega];clear l o hb h1;go_in;go_wp2_with (go_at_call 46;refine(i.out _).mono ?_;rintro e n ⟨rfl,rfl⟩);go_ret;exact⟨rfl,by go_grown⟩
 have j:mayB p c m=false:=by simpa using h1
 have l:zb6 p c m=0:=by unfold zb6;rw[if_neg h1]
 have i:=fun W=>refMay_any p c m W;rw[j]at i;replace i:=hd' i;rw[l];clear h1 j l;go_in;go_wp2_with (go_at_call 46;refine(i.out _).mono ?_;rintro e n ⟨rfl,rfl⟩);go_ret;exact⟨rfl,by go_grown⟩
theorem zyp{F:Nat->Prop}{w:World}{q:Nat}{s:Sh}{k:Kl}(h:KlO F w q s k):Calls Tryz.prog 11 #[some q] w fun e w'=>e= .returned (.bool k.rests)/\w'=w:=by
 have i:=hd' h.rests;clear h;have l:∀ W:World,(binOp .neq 43 (.pointer (some ⟨q,0,.none⟩)) (.pointer none)).run Tryz.prog W= .ok (.bool true) W:=fun W=>by kernel_rfl
 generalize k.rests=r at *;go_in;go_wp2_with (go_at_call 29;(with_reducible refine i.out.mono ?_);rintro r n ⟨rfl,j⟩;obtain rfl:=j.symm);go_returns;exact⟨rfl,rfl⟩
structure CW (B:Nat) (F:Nat->Prop) (W:World) (q p b:Nat) (s:Sh) (k:Kl) (m:Mem):Prop where
 kl:KlO F W q s k
 wd:zaq W p b m
 fp:¬ F p
 fb:¬ F b
 lo:∀ i,F i->B<=i
 lp:B<=p
 lb:B<=b
 ok:klOk s k
 fi:Fits s m
section

variable {B:Nat} {F:Nat->Prop} {W W':World} {q p b:Nat} {s:Sh} {k:Kl} {m:Mem}

theorem CW.below(h:CW B F W q p b s k m)(hb:Below W.heap.size W W'):CW B F W' q p b s k m:=⟨h.kl.below hb,h.wd.below hb,h.fp,h.fb,h.lo,h.lp,h.lb,h.ok,h.fi⟩
theorem CW.only{G:Nat->Prop}(h:CW B F W q p b s k m)(j:Only G W W')(f:∀ i,G i->¬ F i/\i≠p/\i≠b):CW B F W' q p b s k m:=
 ⟨h.kl.only j (fun i hi l=>(f i l).1 hi),h.wd.only j (fun e=>(f p e).2.1 rfl) (fun e=>(f b e).2.2 rfl),h.fp,h.fb,h.lo,h.lp,h.lb,h.ok,h.fi⟩
theorem zif{p:Nat}(h:¬ F p)(f:p<W.heap.size):¬ grow F W W' p:=fun e=>by
 rcases e with e|e
 ·exact h e
 ·omega
structure z2r (B:Nat) (F:Nat->Prop) (W W':World) (q p b:Nat) (s:Sh) (k:Kl) (m:Mem) (r:Ending):Prop where
 ret:∃ v,r= .returned (.tuple #[v,.int .i64 (k.step s m).2.2.2])/\W'.ownsRow W.heap.size 77 8 v (k.step s m).2.2.1.length ((k.step s m).2.2.1.flatMap fun e=> e.cells.toList)
 cw:CW B (grow F W W') W' q p b s (k.step s m).1 (k.step s m).2.1
 only:Only (fun i=> F i\/i=p\/i=b) W W'
 below:Below B W W'
theorem ybc(h:CW B F W q p b s k m)(o:B<=W.heap.size)(hs:m.st<1000000000):
  Calls Tryz.prog 52 #[some q,some p] W fun r w'=>z2r B F W w' q p b s k m r:=by
 have y:=h.fi.may;have hb:=h.fi.bd;have key:∀ r w',ztp F q p b W w' r s k m->klOk s (k.step s m).1->Fits s (k.step s m).2.1->z2r B F W w' q p b s k m r:=fun r w' hS l t=>by
  refine⟨hS.ret,⟨hS.kl,hS.wds,zif h.fp h.wd.ltp,zif h.fb h.wd.ltb,fun i hi=>?_,h.lp,h.lb,l,t⟩,hS.only,hS.only.below o (fun i hi=>?_)⟩
  ·rcases hi with hi|hi
   ·exact h.lo i hi
   omega
  rcases hi with hi|rfl|rfl
  ·exact h.lo i hi
  ·exact h.lp
  exact h.lb
 rcases hj:k.job with _|j
 ·refine(zuq h.kl h.wd hj).mono fun r w' hS=>key r w' hS ?_ ?_
  ·have e:k.step s m=(k,m, [],2):=by unfold Kl.step;rw[hj]
   rw[e];exact h.ok
  have e:k.step s m=(k,m, [],2):=by unfold Kl.step;rw[hj]
  rw[e];exact h.fi
 have l:=zsh h.ok hj h.fi h.wd.fit;have n:=z8x h.ok (by omega) hj;refine(zty h.kl h.wd h.fp h.fb h.fi h.wd.fit hj (h.ok.jb j hj).1 (h.ok.jb j hj).2.1 h.ok.cl ⟨h.ok.st,by omega⟩ hs).mono fun r w' hS=>key r w' hS l.2 (l.1.fits h.fi)
structure ygo (B:Nat) (F:Nat->Prop) (W W':World) (q p b:Nat) (s:Sh) (k:Kl) (m:Mem) (o:Op3) (r:Ending):Prop where
 ret:∃ v,r= .returned (.tuple #[v,.int .i64 (k.invoke s o).2.2])/\W'.ownsRow W.heap.size 77 8 v (k.invoke s o).2.1.length ((k.invoke s o).2.1.flatMap fun e=> e.cells.toList)
 cw:CW B (grow F W W') W' q p b s (k.invoke s o).1 m
 only:Only F W W'
 below:Below B W W'
theorem yfi(o:Op3)(h:CW B F W q p b s k m)(j:B<=W.heap.size):
  Calls Tryz.prog 25 #[some q,.agg #[o.k,o.a,o.n]] W fun r w'=>ygo B F W w' q p b s k m o r:=by
 refine(z3l (o:=o) h.kl).mono fun r w' hS=>?_;refine⟨hS.ret,⟨hS.kl,h.wd.only hS.only h.fp h.fb,zif h.fp h.wd.ltp,zif h.fb h.wd.ltb,fun i hi=>?_,h.lp,h.lb,zwi o h.fi.may h.ok,h.fi⟩,hS.only,hS.only.below j h.lo⟩;rcases hi with hi|hi
 ·exact h.lo i hi
 omega
end

theorem zut{w:World}{B:Nat}{v:Value}{es:List Ev}(h:w.ownsRow B 77 8 v es.length (es.flatMap fun e=>e.cells.toList)):RdE w v es:=RdS.zew h
end

section

structure Hp where
 p:Int
 c:Int
 m:Int
 xs:List Int
def wd (xs:List Int) (i:Int):Int:=xs.getD i.toNat 0
theorem yc8{xs:List Int}{i:Int}(h0:0<=i)(h1:i<xs.length):wd xs i=xs[i.toNat]'(by omega):=by
 unfold wd;rw[List.getD_eq_getElem?_getD,List.getElem?_eq_getElem (by omega)];rfl
def Hp.ok (h:Hp):Bool:=mayB h.p h.c h.m && decide (zb6 h.p h.c h.m<=(h.xs.length:Int))
def Hp.pw (h:Hp) (a:Int):Int:=wd h.xs (h.c + a)
def Hp.pb (h:Hp) (a:Int):Bool:=zal h.p h.c h.m a (h.pw a)
def Hp.pk (h:Hp) (a:Int):Int:=if h.pb a=true then zbx (h.pw a) else 0
def Hp.pa (h:Hp) (a:Int):Int:=if h.pb a=true then za2 (h.pw a) 0 else 0
def Hp.pn (h:Hp) (a:Int):Int:=if h.pb a=true then za2 (h.pw a) 1 else 0
def Hp.sw (h:Hp) (a i:Int):Int:=wd h.xs (h.c + h.p + a * 16 + i)
def Hp.sk (h:Hp) (a i:Int):Int:=if zet (h.sw a i)=true then zbx (h.sw a i) else 0
def Hp.sa (h:Hp) (a i:Int):Int:=if zet (h.sw a i)=true then za2 (h.sw a i) 0 else 0
def Hp.hd (h:Hp) (a:Int):Int:=if (h.pb a && h.pk a==4)=true then h.pa a else a
def Hp.hb (h:Hp) (a:Int):Bool:=h.pb (h.hd a) && h.pk (h.hd a)==1
def Hp.hc (h:Hp) (a:Int):Int:=if h.hb a=true then h.pa (h.hd a) else 0
def ycd (x:Int):Bool:=za8 (zbx x) (za2 x 0)==x && zbx x==1
def Hp.lv (h:Hp) (x:Int):Bool:=mayB h.p h.c h.m && wi x 0 (h.c - 1) && ycd (wd h.xs x)
def Hp.op (h:Hp) (a:Int):Nat->Bool
 | 0=> true
 | i + 1=> h.op a i && h.sk a i==1
def Hp.fr (h:Hp) (a:Int):Bool:=if (h.pb a && h.pk a==2)=true then h.op a (zah (h.pa a)).toNat else h.pb a && h.pk a==0
def Hp.rw (h:Hp):Nat->Nat
 | 0=> 0
 | k + 1=> if h.fr k=true then h.rw k + 1 else 0
def Hp.fit (h:Hp):Prop:=∀ x ∈ h.xs,0<=x/\x < 18446744073709551616
theorem Hp.z95{h:Hp}(f:h.fit)(i:Int):0<=wd h.xs i/\wd h.xs i<18446744073709551616:=by
 unfold wd;rw[List.getD_eq_getElem?_getD];rcases Nat.lt_or_ge i.toNat h.xs.length with h1|h1
 ·rw[List.getElem?_eq_getElem h1];exact f _ (List.getElem_mem h1)
 rw[List.getElem?_eq_none h1];exact⟨by decide,by decide⟩
theorem zpp{p c m a x:Int}(h:zal p c m a x=true):zkb p c a (zbx x) (za2 x 0) (za2 x 1)=true:=by
 unfold zal at h;simp only[Bool.and_eq_true]at h;exact h.2
theorem Hp.zq2{h:Hp}{a:Int}(f:h.pb a=true):zkb h.p h.c a (h.pk a) (h.pa a) (h.pn a)=true:=by
 unfold Hp.pk Hp.pa Hp.pn;rw[if_pos f,if_pos f,if_pos f];exact zpp f
theorem Hp.z1z(h:Hp)(a:Int):(0<=h.pk a/\h.pk a<=15)/\(0<=h.pa a/\h.pa a<=255)/\0<=h.pn a/\h.pn a<=255:=by
 unfold Hp.pk Hp.pa Hp.pn;have:=zw3 (h.pw a);have:=zgv (h.pw a) 0;have:=zgv (h.pw a) 1;split<;>simp_all
theorem Hp.ygu{h:Hp}{a:Int}(f:(h.pb a&&h.pk a==4)=true):h.pa a<a/\a-8<h.pa a/\0<=h.pa a:=by
 simp only[Bool.and_eq_true,beq_iff_eq]at f;have:=h.zq2 f.1;rw[f.2]at this;simp[zkb]at this;exact⟨this.1,this.2,(h.z1z a).2.1.1⟩
theorem Hp.yji{h:Hp}{a:Int}(f:(h.pb a&&h.pk a==3)=true):1<=h.pa a/\h.pa a<=8/\h.pa a<=h.p-a:=by
 simp only[Bool.and_eq_true,beq_iff_eq]at f;have:=h.zq2 f.1;rw[f.2]at this;simp[zkb]at this;omega
theorem Hp.ygf{h:Hp}{a:Int}(f:(h.pb a&&h.pk a==2)=true):0<=h.pa a/\h.pa a<=3:=by
 simp only[Bool.and_eq_true,beq_iff_eq]at f;have:=h.zq2 f.1;rw[f.2]at this;simp[zkb]at this;have:=(h.z1z a).2.1.1;omega
theorem Hp.yfx{h:Hp}{a:Int}(h0:0<=a)(h1:a<h.p):0<=h.hd a/\h.hd a<h.p:=by
 unfold Hp.hd;split
 ·rename_i f;have:=Hp.ygu f;omega
 exact⟨h0,h1⟩
structure Cn where
 f:Int
 t:Int
 l:Int
 o:Int
 deriving DecidableEq
def Cn.zero:Cn:=⟨0,0,0,0⟩
def Cn.add (x y:Cn):Cn:=⟨x.f + y.f,x.t + y.t,x.l + y.l,x.o + y.o⟩
def Cn.sum (x:Cn):Int:=x.f + x.t + x.l + x.o
def Cn.nn (x:Cn):Prop:=0<=x.f/\0<=x.t/\0<=x.l/\0<=x.o
theorem Cn.zt6(x y:Cn):(x.add y).sum=x.sum+y.sum:=by simp only[Cn.sum,Cn.add];omega
theorem Cn.z3s{x y:Cn}(h:x.nn)(k:y.nn):(x.add y).nn:=by unfold Cn.nn Cn.add at *;simp only;omega
theorem Cn.bd{x:Cn}{n:Int}(h:x.nn)(k:x.sum<=n):(0<=x.f/\x.f<=n)/\(0<=x.t/\x.t<=n)/\(0<=x.l/\x.l<=n)/\0<=x.o/\x.o<=n:=by unfold Cn.nn Cn.sum at *;omega
theorem Cn.add_assoc(x y z:Cn):(x.add y).add z=x.add (y.add z):=by simp only[Cn.add,Int.add_assoc]
theorem Cn.add_zero(x:Cn):x.add Cn.zero=x:=by simp[Cn.add,Cn.zero]
def zj7 (b:Bool) (k:Int):Cn:=if b=true then ⟨0,0,k,0⟩ else ⟨0,0,0,k⟩
theorem zri(b:Bool)(k:Int):(zj7 b k).sum=k:=by unfold zj7 Cn.sum;split<;>simp
theorem zwp(b:Bool){k:Int}(h:0<=k):(zj7 b k).nn:=by unfold zj7 Cn.nn;split<;>simp[h]
def Hp.slC (h:Hp) (a z i:Int):Cn:=if h.sk a i=1 then ⟨z,0,0,0⟩ else if h.sk a i=3 then ⟨0,z,0,0⟩ else zj7 (h.sk a i==2 && h.lv (h.sa a i)) z
def Hp.slS (h:Hp) (a z:Int):Nat->Cn
 | 0=> Cn.zero
 | i + 1=> (h.slS a z i).add (h.slC a z i)
theorem Hp.ybf(h:Hp)(a z i:Int):(h.slC a z i).sum=z:=by
 unfold Hp.slC;split
 ·simp[Cn.sum]
 split
 ·simp[Cn.sum]
 exact zri _ _
theorem Hp.ydg(h:Hp)(a i:Int){z:Int}(f:0<=z):(h.slC a z i).nn:=by
 unfold Hp.slC;split
 ·simp[Cn.nn,f]
 split
 ·simp[Cn.nn,f]
 exact zwp _ f
theorem Hp.z2x(h:Hp)(a z:Int)(i:Nat):(h.slS a z i).sum=z*i:=by
 induction i with
 |zero=>simp[Hp.slS,Cn.zero,Cn.sum];|succ i f=>show ((h.slS a z i).add (h.slC a z i)).sum=_;rw[Cn.zt6,f,Hp.ybf,Int.natCast_add,Int.mul_add];simp
theorem Hp.z9d(h:Hp)(a:Int){z:Int}(f:0<=z)(i:Nat):(h.slS a z i).nn:=by
 induction i with
 |zero=>simp[Hp.slS,Cn.zero,Cn.nn]
 |succ i j=>exact Cn.z3s j (h.ydg a i f)
def Hp.pgC (h:Hp) (a:Int):Cn:=
 if (h.hb a || !h.pb a)=true then zj7 (h.hb a && h.lv (h.hc a)) 64
 else if h.pk a=0 then ⟨64,0,0,0⟩
 else if h.pk a=2 then h.slS a (zbj (h.pa a)) (zah (h.pa a)).toNat
 else ⟨0,64,0,0⟩
def Hp.cn (h:Hp):Nat->Cn
 | 0=> Cn.zero
 | k + 1=> (h.cn k).add (h.pgC k)
def Hp.count (h:Hp):Cn:=if h.ok=true then h.cn h.p.toNat else Cn.zero
theorem Hp.ybs(h:Hp)(a:Int):(h.pgC a).sum=64:=by
 unfold Hp.pgC;split
 ·exact zri _ _
 rename_i h1;simp only[Bool.or_eq_true,Bool.not_eq_true',not_or,Bool.not_eq_false]at h1;split
 ·simp[Cn.sum]
 split
 ·rename_i h2;have:=Hp.ygf (h:=h) (a:=a) (by rw[h1.2,h2];rfl);have hb:=zcy (h.pa a);rw[Hp.z2x,Int.toNat_of_nonneg hb.1];exact zzh this
 simp[Cn.sum]
theorem Hp.yc5(h:Hp)(a:Int):(h.pgC a).nn:=by
 unfold Hp.pgC;split
 ·exact zwp _ (by decide)
 split
 ·simp[Cn.nn]
 split
 ·exact h.z9d a (znt _).1 _
 simp[Cn.nn]
theorem Hp.ydp(h:Hp)(k:Nat):(h.cn k).sum=64*k:=by
 induction k with
 |zero=>simp[Hp.cn,Cn.zero,Cn.sum];|succ k f=>show ((h.cn k).add (h.pgC k)).sum=_;rw[Cn.zt6,f,Hp.ybs];omega
theorem Hp.ygi(h:Hp)(k:Nat):(h.cn k).nn:=by
 induction k with
 |zero=>simp[Hp.cn,Cn.zero,Cn.nn]
 |succ k f=>exact Cn.z3s f (h.yc5 k)
end

section

open Go.RowKit

end

end Go.Proofs.YtedcnffebdpmmaaGreat

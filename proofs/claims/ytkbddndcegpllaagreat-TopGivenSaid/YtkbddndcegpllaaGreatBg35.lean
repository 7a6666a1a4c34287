/- Texts bound together: CliY EdgeW EdgeA EdgeS CliZ SchP. -/
import Derived.Laws.Externs

import Derived.IntWalk

import Derived.Test.YtkbddndcegpllaaGreatBg34

set_option linter.all false
set_option maxHeartbeats 4000000
set_option maxRecDepth 100000
namespace Go.Proofs.YtkbddndcegpllaaGreat

section

open Go.RowKit

attribute [local go_sem ↓] Go.wp_at_zero Go.wp_at_succ

theorem z8b{F:Nat->Prop}{w:World}{v:Value}{s:Sh}{cl:Int}{j:Jb}(h:JbO F w v s cl j):∃ T x,v= .iface T x:=by
 cases j<;>(obtain⟨q,e,_⟩:=h;exact⟨_,_,e⟩)
structure zyn (F:Nat->Prop) (q:Nat) (w w':World) (r:Ending) (s:Sh) (k:Kl) (o:Op3):Prop where
 ret:∃ v,r= .returned (.tuple #[v,.int .i64 (k.invoke s o).2.2])/\w'.ownsRow w.heap.size 66 8 v (k.invoke s o).2.1.length ((k.invoke s o).2.1.flatMap fun e=> e.cells.toList)
 kl:KlO (grow F w w') w' q s (k.invoke s o).1
 only:Only F w w'
 kl0:(k.invoke s o).1.job=none->KlO F w' q s (k.invoke s o).1
theorem zv4{F:Nat->Prop}{q:Nat}{s:Sh}{k:Kl}{o:Op3}{w:World}(h:KlO F w q s k)(i:k.rests=false\/(k.rests=true/\(o.k<1\/4<o.k))):
  Calls Tryz.prog 60 #[.pointer (some ⟨q,0,.none⟩),.agg #[.int .i64 o.k,.int .i64 o.a,.int .i64 o.n]] w fun r w'=>zyn F q w w' r s k o:=by
 obtain⟨ok,oa,on⟩:=o;dsimp only at i ⊢;have p:=(Below.refl w.heap.size w).alloc lr (.cells #[.int .i64 ok,.int .i64 oa,.int .i64 on] 32);have C:zaa (w.alloc (.cells #[.int .i64 ok,.int .i64 oa,.int .i64 on] 32)) w.heap.size #[.int .i64 ok,.int .i64 oa,.int .i64 on] 32:=heap_alloc_new _ _;have l:=(h.below p).rests;have z:Hid (∀ W x,Below w.heap.size w W->k.invoke s ⟨ok,oa,on⟩=(k, [],x)->zyn F q w W (.returned (.tuple #[.slice none 0 0,.int .i64 x])) s k ⟨ok,oa,on⟩):=hd' fun W x hb j=>by
  refine⟨⟨_,by rw[j],?_⟩,?_,Only.of_below hb,fun _=>by rw[j];exact h.below hb⟩
  ·rw[j];exact zel _ _
  rw[j];exact(h.below hb).weak (fun b hb=>.inl hb) (zec h.lt hb.size)
 have G:∀ W:World,(binOp .eql 61 (.pointer (some ⟨q,0,.none⟩)) (.pointer none)).run Tryz.prog W= .ok (.bool false) W:=fun W=>by kernel_rfl
 have D:(k.rests=false/\k.invoke s ⟨ok,oa,on⟩=(k, [],4))\/(k.rests=true/\ok<1/\k.invoke s ⟨ok,oa,on⟩=(k, [],1))\/(k.rests=true/\decide (ok<1)=false/\4<ok/\k.invoke s ⟨ok,oa,on⟩=(k, [],1)):=by
  rcases i with i|⟨i,J⟩
  ·exact .inl ⟨i,by unfold Kl.invoke;rw[if_pos i]⟩
  have e:k.invoke s ⟨ok,oa,on⟩=(k, [],1):=by unfold Kl.invoke;rw[if_neg (by rw[i];decide),if_pos J]
  by_cases B:ok<1
  ·exact .inr (.inl ⟨i,B,e⟩)
  exact .inr (.inr ⟨i,decide_eq_false B,by omega,e⟩)
 clear i h;rcases D with⟨j,y⟩|⟨j,B,y⟩|⟨j,B,L,y⟩;all_goals rw[j]at l;replace l:=hd' l;replace y:=hd' y;clear j;go_in;go_upto_region 1 with fail;generalize w.alloc (.cells #[.int .i64 ok,.int .i64 oa,.int .i64 on] 32)=X at *;obtain⟨H,I,m⟩:=hidv w.heap.size;rw[<-m]at C ⊢;clear m;have M:H<X.heap.size:=C.lt;have c0:=ci ok (C.cell 0);go_wp2_with (go_at_call 83;(with_reducible refine l.out.mono ?_);rintro r N ⟨rfl,E⟩;obtain rfl:=E.symm);go_returns;exact z.out _ _ p y.out
theorem z4b{F:Nat->Prop}{q:Nat}{s:Sh}{k:Kl}{o:Op3}{w:World}(h:KlO F w q s k)(hj:k.job=none)(hk:1<=o.k/\o.k<=4):
  Calls Tryz.prog 60 #[.pointer (some ⟨q,0,.none⟩),.agg #[.int .i64 o.k,.int .i64 o.a,.int .i64 o.n]] w fun r w'=>zyn F q w w' r s k o:=by
 have c9:k.rests=true:=by unfold Kl.rests;rw[hj];rfl
 have m:k.invoke s o=if ziu s k.c o.k o.a o.n=true then({k with op:=o,told:=false,steps:=0}, [zbh k.c o,zaf k.c o 0 (zjw s k.c o.k o.a o.n)],0) else({k with op:=o,told:=false,steps:=0,job:=some (zgl s k.c k.first o.k o.a o.n)}, [zbh k.c o],0):=by unfold Kl.invoke;rw[if_neg (by rw[c9];decide),if_neg (by omega)]
 have b6:=(Below.refl w.heap.size w).alloc lr (.cells #[.int .i64 o.k,.int .i64 o.a,.int .i64 o.n] 32);have hH:zaa (w.alloc (.cells #[.int .i64 o.k,.int .i64 o.a,.int .i64 o.n] 32)) w.heap.size #[.int .i64 o.k,.int .i64 o.a,.int .i64 o.n] 32:=heap_alloc_new _ _;have bb:=(h.below b6).rests;rw[c9]at bb;replace bb:=hd' bb;have ep:∀ W:World,(binOp .eql 61 (.pointer (some ⟨q,0,.none⟩)) (.pointer none)).run Tryz.prog W= .ok (.bool false) W:=fun W=>by kernel_rfl
 obtain⟨hF,hq,sp,sl,jv,G,bc,bg,I,hG,_,_⟩:=h;have hi:(!k.job.isSome)=true:=by rw[hj];rfl
 rw[hi]at bc;have ck:zdv k= []:=by unfold zdv;rw[hj]
 rw[ck]at bg;have C:∀ i,(i=q\/foot sp sl i)->i<w.heap.size:=fun i hi=>by rcases hi with rfl|hi;exact hF _ hq;exact hF i (I i hi).1
 have p:=fun W=>zyq s k.c o.k o.a o.n W hk;have z:=fun (W:World) (i:Bool) (jv:Value) (hr:zaa W q (zat s {k with op:=o,told:=false,steps:=0} i jv (.pointer (some ⟨sp,0,.none⟩))) 178)=>zue (k:= {k with op:=o,told:=false,steps:=0}) hr hk
 have J:=hd' (fun (W:World) (v:Value) (hB:ziu s k.c o.k o.a o.n=true) (hr:zaa W q (zat s {k with op:=o,told:=false,steps:=0} true .nilIface (.pointer (some ⟨sp,0,.none⟩))) 178) (hs:SK 0 W sp (.slice none 0 0) 1 []) (ho:Only F w W) (hv:W.ownsRow w.heap.size 66 8 v 2 ((zbh k.c o).cells.toList++(zaf k.c o 0 (zjw s k.c o.k o.a o.n)).cells.toList))=>(by
  rw[if_pos hB]at m
  have h0:KlO F W q s {k with op:=o,told:=false,steps:=0}:=by
   refine⟨fun i hi=>Nat.lt_of_lt_of_le (hF i hi) ho.size,hq,sp,.slice none 0 0,.nilIface,fun _=>False,?_,?_,fun i hi=>?_,fun i hi=>hi.elim,fun _=>rfl,fun x hx=>?_⟩
   ·have e:(!k.job.isSome)=true:=hi
    show zaa W q (zat s _ (!k.job.isSome) _ _) _
    rw[e];exact hr
   ·have e:zdv {k with op:=o,told:=false,steps:=0}= []:=by unfold zdv;rw[show ({k with op:=o,told:=false,steps:=0}:Kl).job=none from hj]
    rw[e];exact hs
   ·rcases hi with rfl|hi
    ·exact⟨(I _ (.inl rfl)).1,(I _ (.inl rfl)).2⟩
    ·cases hi
   ·have hx:k.job=some x:=hx
    rw[hj]at hx;exact absurd hx (fun e=>by cases e)
  exact⟨⟨v,by rw[m],by rw[m];exact hv⟩,by rw[m];exact h0.weak (fun _ hi=>.inl hi) (zec hF ho.size),ho,fun _=>by rw[m];exact h0⟩:zyn F q w W (.returned (.tuple #[v,.int .i64 0])) s k o))
 have V:=hd' (fun (W:World) (v jv y:Value) (H:Nat->Prop) (hB:ziu s k.c o.k o.a o.n=false) (hr:zaa W q (zat s {k with op:=o,told:=false,steps:=0} false jv (.pointer (some ⟨sp,0,.none⟩))) 178) (hs:SK 0 W sp y 1 [⟨o.k,0, [o.a,o.n,0,0,0,0,0,0]⟩]) (e0:∀ i,foot sp y i->foot sp sl i\/(w.heap.size<=i/\i<W.heap.size)) (hH:∀ i,H i->w.heap.size<=i/\i<W.heap.size) (hd:∀ i,H i->¬ foot sp y i) (hJ:JbO H W jv s k.c (zgl s k.c k.first o.k o.a o.n)) (ho:Only F w W) (hv:W.ownsRow w.heap.size 66 8 v 1 (zbh k.c o).cells.toList)=>(by
  rw[if_neg (by rw[hB];decide)]at m
  refine⟨⟨v,by rw[m],?_⟩,?_,ho,fun e=>by rw[m]at e;exact absurd e (fun e=>by cases e)⟩
  ·rw[m];exact hv
  ·rw[m]
   refine⟨zec hF ho.size,.inl hq,sp,y,jv,H,hr,hs,fun i hi=>?_,fun i hi=>⟨.inr (hH i hi),fun e=>by have:=C i (.inl e);have:=hH i hi;omega,hd i hi⟩,fun e=>(by cases e),fun x hx=>?_⟩
   ·rcases e0 i hi with l|l
    ·exact⟨.inl (I i l).1,(I i l).2⟩
    ·exact⟨.inr l,fun e=>by have:=C i (.inl e);omega⟩
   ·injection hx with hx
    subst hx
    exact hJ:zyn F q w W (.returned (.tuple #[v,.int .i64 0])) s k o))
 clear m c9 hi ck hj;have b:=bc.below b6;have bk:=bg.below b6;generalize bu:ziu s k.c o.k o.a o.n=ob at *;generalize zjw s k.c o.k o.a o.n=oe at *;obtain⟨ok,oa,on⟩:=o;obtain⟨U,kf,⟨eg,ef,eh⟩,kj,kt,ks⟩:=k;dsimp only at p z J V ⊢;generalize zgl s U kf ok oa on=jn at *;obtain⟨bx,sc,sm⟩:=s;dsimp only[zat]at b z J V p;clear bc bg bu;go_in;go_upto_region 1 with fail;generalize w.alloc (.cells #[.int .i64 ok,.int .i64 oa,.int .i64 on] 32)=X at *;obtain⟨H,eu,c4⟩:=hidv w.heap.size;rw[<-c4]at hH ⊢;have ev:w.heap.size<=H:=by omega
 clear c4;have lH:H<X.heap.size:=hH.lt;obtain⟨c0,c1,c2⟩:=ci3 ok oa on hH.cell;have cu:decide (ok<1)=false:=decide_eq_false (by have:1<=ok:=hk.1;omega);have cv:decide (4<ok)=false:=decide_eq_false (by have:ok<=4:=hk.2;omega);have ed:q<X.heap.size:=b.lt;have fX:=zax b;have x5:=ci eg (b.cell 5);have x6:=ci ef (b.cell 6);have x7:=ci eh (b.cell 7);have x9:=ce (.bool true) (b.cell 9);have ej:=ce (.bool kt) (b.cell 10);have ek:=ci ks (b.cell 12);have cy:H≠q:=fun e=>by have:=C q (.inl rfl);omega
 go_upto_region 8 with(go_at_call 83;(with_reducible refine bb.out.mono ?_);rintro r w1 ⟨rfl,e3⟩;obtain rfl:=e3.symm);have N:zaa ((((((X.setCell ⟨q,5,.none⟩ (.int .i64 ok)).setCell ⟨q,6,.none⟩ (.int .i64 oa)).setCell ⟨q,7,.none⟩ (.int .i64 on)).setCell ⟨q,9,.none⟩ (.bool false)).setCell ⟨q,10,.none⟩ (.bool false)).setCell ⟨q,12,.none⟩ (.int .i64 0)) q #[.int .i64 bx,.int .i64 sc,.int .i64 sm,.int .i64 U,.int .i64 kf,.int .i64 ok,.int .i64 oa,.int .i64 on,jv,.bool false,.bool false,.pointer (some ⟨sp,0,.none⟩),.int .i64 0] 178:=((((((b.set 5 (.int .i64 ok)).set 6 (.int .i64 oa)).set 7 (.int .i64 on)).set 9 (.bool false)).set 10 (.bool false)).set 12 (.int .i64 0));have oq:Only (fun i=>i=q) X ((((((X.setCell ⟨q,5,.none⟩ (.int .i64 ok)).setCell ⟨q,6,.none⟩ (.int .i64 oa)).setCell ⟨q,7,.none⟩ (.int .i64 on)).setCell ⟨q,9,.none⟩ (.bool false)).setCell ⟨q,10,.none⟩ (.bool false)).setCell ⟨q,12,.none⟩ (.int .i64 0)):=Only.setCell (F:=fun i=>i=q) (Only.setCell (F:=fun i=>i=q) (Only.setCell (F:=fun i=>i=q) (Only.setCell (F:=fun i=>i=q) (Only.setCell (F:=fun i=>i=q) (Only.setCell (F:=fun i=>i=q) (Only.refl _ _) (.inl rfl) _) (.inl rfl) _) (.inl rfl) _) (.inl rfl) _) (.inl rfl) _) (.inl rfl) _;have bh:=oq.stk bk (fun i hi e=>(I i hi).2 e);have bp:=hH.only oq cy;have ca:Only (fun i=>i=q\/foot sp sl i) w ((((((X.setCell ⟨q,5,.none⟩ (.int .i64 ok)).setCell ⟨q,6,.none⟩ (.int .i64 oa)).setCell ⟨q,7,.none⟩ (.int .i64 on)).setCell ⟨q,9,.none⟩ (.bool false)).setCell ⟨q,10,.none⟩ (.bool false)).setCell ⟨q,12,.none⟩ (.int .i64 0)):=(Only.of_below b6).trans oq (fun i _ hi=>.inl hi);have e2:=oq.size;generalize ((((((X.setCell ⟨q,5,.none⟩ (.int .i64 ok)).setCell ⟨q,6,.none⟩ (.int .i64 oa)).setCell ⟨q,7,.none⟩ (.int .i64 on)).setCell ⟨q,9,.none⟩ (.bool false)).setCell ⟨q,10,.none⟩ (.bool false)).setCell ⟨q,12,.none⟩ (.int .i64 0))=w2 at *;clear b bk hH b6 lH c0 c1 c2 cu cv ed fX x5 x6 x7 x9 ej ek bb oq;have cg:w.heap.size<=w2.heap.size:=ca.size;have ea:q<w2.heap.size:=N.lt;have e7:H<w2.heap.size:=bp.lt;have bA:Below w2.heap.size w2 (w2.alloc (.cells #[.int .i64 oa,.int .i64 on] 2)).drew:=(br.alloc lr _).drew;have hA:zaa (w2.alloc (.cells #[.int .i64 oa,.int .i64 on] 2)).drew w2.heap.size #[.int .i64 oa,.int .i64 on] 2:=zaa.drew (heap_alloc_new _ _)
 have M:Calls Tryz.prog 112 #[.pointer (some ⟨sp,0,.none⟩),.int .i64 ok,.slice (some ⟨w2.heap.size,0,.none⟩) 2 2] (w2.alloc (.cells #[.int .i64 oa,.int .i64 on] 2)).drew fun e w'=>e= .returned (.bool true)/\Only (foot sp sl) (w2.alloc (.cells #[.int .i64 oa,.int .i64 on] 2)).drew w'/\∃ y,(∀ k,y.ownBlock=some k->sl.ownBlock=some k\/(w2.alloc (.cells #[.int .i64 oa,.int .i64 on] 2)).drew.heap.size<=k)/\SK 0 w' sp y 1 [⟨ok,0, [oa,on,0,0,0,0,0,0]⟩]:=zt0 (w:=(w2.alloc (.cells #[.int .i64 oa,.int .i64 on] 2)).drew) (code:=ok) (ao:=some ⟨w2.heap.size,0,.none⟩) (zs:= [oa,on]) (cap:=2) (bh.below bA) (by simp) (by simp) (Nat.zero_le _) (by decide) (fun a ha j v hv=>by
  injection ha with ha
  subst ha
  rw[zqn,Nat.zero_add,hA.cell j]
  rcases j with _|_|j
  ·exact hv
  ·exact hv
  ·simp at hv) (fun e=>by cases e)
 replace M:=hd' M;have O:=N.drew;have b4:=bp.drew;have b0:=N.below bA;have c6:=bp.below bA;have hS:=hd' (fun (Y:World) (hr:zaa Y q #[.int .i64 bx,.int .i64 sc,.int .i64 sm,.int .i64 U,.int .i64 kf,.int .i64 ok,.int .i64 oa,.int .i64 on,jv,.bool false,.bool false,.pointer (some ⟨sp,0,.none⟩),.int .i64 0] 178) (hb:zaa Y H #[.int .i64 ok,.int .i64 oa,.int .i64 on] 32)=>(⟨hr.cell 11,hb.cell 0,hb.cell 1,hb.cell 2⟩:Y.cell? ⟨q,11,.none⟩=some (.pointer (some ⟨sp,0,.none⟩))/\Y.cell? ⟨H,0,.none⟩=some (.int .i64 ok)/\Y.cell? ⟨H,1,.none⟩=some (.int .i64 oa)/\Y.cell? ⟨H,2,.none⟩=some (.int .i64 on)));have ba:¬ foot sp sl q:=fun e=>(I q e).2 rfl;have cd:¬ foot sp sl H:=fun e=>by have:=C H (.inr e);omega
 go_region_held3 (fun Y=>Y.cell? ⟨q,11,.none⟩=some (.pointer (some ⟨sp,0,.none⟩))/\Y.cell? ⟨H,0,.none⟩=some (.int .i64 ok)/\Y.cell? ⟨H,1,.none⟩=some (.int .i64 oa)/\Y.cell? ⟨H,2,.none⟩=some (.int .i64 on))
  (first|exact hS.out _ O b4|exact hS.out _ b0 c6|exact hS.out _ (O.alloc _) (b4.alloc _)|exact hS.out _ D b5)
  (first|(go_at_call 112;(with_reducible refine M.out.mono ?_);rintro r w3 ⟨rfl,bv,y,c5,b1⟩;have D:=b0.only bv ba;have b5:=c6.only bv cd))
 have bm:Only (fun i=>i=q\/foot sp sl i) w w3:=(ca.trans (Only.of_below (F:=fun _=>False) bA) (fun _ _ l=>l.elim)).trans bv (fun i _ hi=>.inr hi);have cm:∀ i,foot sp y i->foot sp sl i\/(w.heap.size<=i/\i<w3.heap.size):=fun i hi=>by
  rcases hi with rfl|hi
  ·exact .inl (.inl rfl)
  rcases c5 i hi with l|l
  ·exact .inl (.inr l)
  have h1:=bA.size;exact .inr ⟨by omega,(b1.zem i hi).2⟩
 clear N bh bp ca e2 cg ea e7 bA hA M O b4 b0 c6 hS bv c5 cd ba;go_upto_region 9 with fail;have cg:w.heap.size<=w3.heap.size:=bm.size;have eb:q<w3.heap.size:=D.lt;have e8:H<w3.heap.size:=b5.lt;obtain⟨c0,c1,c2⟩:=ci3 ok oa on b5.cell;have c3:=ci U (D.cell 3);refine zad 6 (by kernel_rfl) (by kernel_rfl) ?_;dsimp only[List.take,List.drop];repeat (go_big_quiet_step (fail))
 refine wpQuiet_nil ?_;rintro _ ⟨e',rfl⟩;have bf:=D.below e'.below;have bi:=b1.below e'.below;have cc:=b5.below e'.below;have cp:=bm.trans (Only.of_below (F:=fun _=>False) e'.below) (fun _ _ l=>l.elim);have ew:=e'.below.size;generalize e'.w=w4 at *;change wpList _ _ _ _ _ w4;clear D b1 b5 bm eb e8 c0 c1 c2 c3;go_upto_region 10 with fail;have b8:Below w4.heap.size w4 (w4.alloc (.cells (zbh U ⟨ok,oa,on⟩).cells 66)):=br.alloc lr _;have L:(w4.alloc (.cells (zbh U ⟨ok,oa,on⟩).cells 66)).ownsRow w.heap.size 66 8 (.slice (some ⟨w4.heap.size,0,.none⟩) 1 1) 1 (zbh U ⟨ok,oa,on⟩).cells.toList:=World.ownsRow_lit w4 (zbh U ⟨ok,oa,on⟩).cells 1 (by omega) (by decide) rfl;have E:=bf.below b8;have b2:=bi.below b8;have bq:=cc.below b8;have bw:=cp.trans (Only.of_below (F:=fun _=>False) b8) (fun _ _ l=>l.elim);have cl:w4.heap.size<(w4.alloc (.cells (zbh U ⟨ok,oa,on⟩).cells 66)).heap.size:=by rw[size_alloc];omega
 dsimp only[zbh,Ev.cells]at E b2 bq bw L cl;generalize w4.alloc (.cells #[.int .i64 2,.int .i64 U,.int .i64 ok,.int .i64 oa,.int .i64 on,.int .i64 0,.int .i64 0,.int .i64 0] 66)=w5 at *;clear bf bi cc cp b8;obtain⟨B,cq,bz⟩:=hidv w4.heap.size;rw[<-bz]at L cl ⊢;have es:w.heap.size<=B:=by omega
 have er:w3.heap.size<=B:=by omega
 clear bz cq;have em:w.heap.size<=w5.heap.size:=bw.size;have T:∀ i,foot sp y i->foot sp sl i\/(w.heap.size<=i/\i<B):=fun i hi=>by
  rcases cm i hi with l|l
  ·exact .inl l
  exact .inr ⟨l.1,by omega⟩
 have ec:q<w5.heap.size:=E.lt;have e9:H<w5.heap.size:=bq.lt;obtain⟨c0,c1,c2⟩:=ci3 ok oa on bq.cell;obtain⟨q0,q1,q2,q3⟩:=ci4 bx sc sm U E.cell;replace p:=hd' p;refine zaj (by kernel_rfl) (by kernel_rfl) ?_;repeat (go_big_quiet_step (((go_at_call 113;exact zam (p.out _)))))
 refine wpQuiet_nil ?_;rintro _ ⟨e',rfl⟩;have R:=E.below e'.below;have bj:=b2.below e'.below;have bn:=bw.trans (Only.of_below (F:=fun _=>False) e'.below) (fun _ _ l=>l.elim);have Z:=zav L e'.below;have ex:=e'.below.size;generalize e'.w=w6 at *;clear E b2 bw L c0 c1 c2 q0 q1 q2 q3 ec e9 p bq;obtain⟨i0,cs,e4,e5,e6⟩:=info_parts zdb;have ba:¬ foot sp y q:=fun e=>by
  rcases T q e with l|l
  ·exact(I q l).2 rfl
  have:=C q (.inl rfl);omega
 have cr:¬ foot sp y B:=fun e=>by
  rcases T B e with l|l
  ·have:=C B (.inr l);omega
  omega
 have cx:B≠q:=fun e=>by have:=C q (.inl rfl);omega
 cases ob;case true=>
  have b3:=zbn (s:=⟨bx,sc,sm⟩) (k:=⟨U,kf,⟨ok,oa,on⟩,kj,false,0⟩) (i:=false) (jv:=jv) oe 0 R bj ba;dsimp only[zat,Ev.val,Ev.cells,zaf]at b3;replace b3:=hd' b3;have ch:w.heap.size<=w6.heap.size:=bn.size;go_wp2_with (first|(go_at_call 114;(with_reducible refine b3.out.mono ?_);rintro r w8 ⟨rfl,h8,cz,cb⟩;have b9:=zas Z (fun i hi=>cb.block i (Z.lt i hi).2 (fun e=>by(have:B=i:=by injection hi);subst this;exact e.elim cx cr));have cj:w.heap.size<=w8.heap.size:=Nat.le_trans ch cb.size)|(refine zay rfl (.tmp 71) (.tmp 75) 63 rfl w.heap.size 66 i0 _ 8 64 Tryz.underlying63 cs e4 e5 e6 rfl (by omega) _ 1 (zbh U ⟨ok,oa,on⟩).cells.toList rfl (zav b9 (br.alloc lr _)) _ 1 (zaf U ⟨ok,oa,on⟩ 0 oe).cells.toList rfl (evRd (zaf U ⟨ok,oa,on⟩ 0 oe) _) (zfo _) (by simp only[maxLen];omega) (by omega) (by simp;omega) ?_;intro v9 w9 c8 bs el;have c7:=zaw ((Below.refl w.heap.size w8).alloc cj (.cells (zaf U ⟨ok,oa,on⟩ 0 oe).cells 66)) (zav b9 (br.alloc lr _)) (by simp;omega) bs));go_returns;have lq:=C q (.inl rfl)
  have ei:Only (fun i=>i=q\/foot sp sl i) w w9:=zfp (bn.trans cb (fun i hi l=>by
   rcases l with l|l
   ·exact .inl l
   ·rcases T i l with e|e
    ·exact .inr e
    ·omega)) c7
  exact J.out w9 v9 trivial (h8.belB c7 lq) ((zdy c7).stk cz (fun i hi e=>by
   rcases hi with rfl|hi
   ·have:=C _ (.inr (.inl rfl));omega
   ·cases hi)) (ei.weak (fun i hi=>by
   rcases hi with rfl|hi
   ·exact hq
   ·exact(I i hi).1)) c8
 case false=>
  have e1:=hd' (z w6 false jv R);have l6:q<w6.heap.size:=R.lt;clear J z;go_wp2_with (first|(go_at_call 115;(with_reducible refine e1.out.mono ?_);rintro r w7 ⟨ez,rfl,cf,b7⟩;obtain⟨T2,x2,rfl⟩:=z8b cf;have S:=R.below b7;have z8:=ce jv (S.cell 8);have zf:=zax S;have l7:=S.lt));go_returns;have lq:=C q (.inl rfl);have ey:=b7.size;have hW:(w7.setCell ⟨q,8,.none⟩ (.iface T2 x2)).heap.size=w7.heap.size:=size_set _ _ _;have oq:Only (fun i=>i=q) w7 (w7.setCell ⟨q,8,.none⟩ (.iface T2 x2)):=Only.setCell (F:=fun i=>i=q) (Only.refl _ _) (.inl rfl) _;refine V.out _ _ (.iface T2 x2) y (fun i=>w6.heap.size<=i/\i<w7.heap.size) trivial (S.set 8 (.iface T2 x2)) (oq.stk (bj.below b7) (fun i hi e=>ba (e ▸ hi))) (fun i hi=>?_) (fun i hi=>⟨Nat.le_trans bn.size hi.1,by rw[hW];exact hi.2⟩) (fun i hi e=>?_) (cf.only oq (fun i hi e=>by omega)) ?_ ?_
  ·rcases T i hi with l|l
   ·exact .inl l
   exact .inr ⟨l.1,by omega⟩
  ·rcases T i e with l|l
   ·have:=C i (.inr l);have:=bn.size;omega
   omega
  ·refine((bn.trans (Only.of_below (F:=fun _=>False) b7) (fun _ _ l=>l.elim)).trans oq (fun i _ l=>.inl l)).weak (fun i hi=>?_);rcases hi with rfl|hi
   ·exact hq
   exact(I i hi).1
  exact zkk (zav Z b7) oq (fun i hi e=>by omega)
theorem z3l{F:Nat->Prop}{q:Nat}{s:Sh}{k:Kl}{o:Op3}{w:World}(h:KlO F w q s k):
  Calls Tryz.prog 60 #[.pointer (some ⟨q,0,.none⟩),.agg #[.int .i64 o.k,.int .i64 o.a,.int .i64 o.n]] w fun r w'=>zyn F q w w' r s k o:=by
 rcases hj:k.job with _|j
 ·have b:k.rests=true:=by unfold Kl.rests;rw[hj];rfl
  by_cases i:1<=o.k/\o.k<=4
  ·exact z4b h hj i
  exact zv4 h (.inr ⟨b,by omega⟩)
 have b:k.rests=false:=by unfold Kl.rests;rw[hj];rfl
 exact zv4 h (.inl b)
end

section

open Go.RowKit Fl

theorem ye8(x y:Nat):FloatKind.f64.format.order x y=Ieee.double.order x y:=rfl
abbrev F64 (x:Nat):Value:= .float .f64 x
theorem z7u(x:Nat)(w:World):(Op.unary UnOp.neg (.float .f64 x)).run Tryz.prog w= .ok (.float .f64 (x ^^^ 2^63)) w:=rfl
theorem z2t(x:Nat)(w:World):Calls Tryz.prog 185 #[F64 x] w fun e w'=>e= .returned (.bool (nan x))/\w'=w:=by
 go_in;go_wp2;go_ret;refine⟨zg6 ?_,rfl⟩;rw[ye8,bne,zq7,Fl.yax,Bool.not_not]
theorem zp1(x:Nat)(w:World):Calls Tryz.prog 186 #[F64 x,.int .i64 (-1)] w fun e w'=>e= .returned (.bool (decide (zg4 x=1)))/\w'=w:=by
 have b:=z7u x;go_in;go_wp2;go_ret;refine⟨zg6 ?_,rfl⟩;rw[<-z18,<- zma];rfl
theorem zps(x:Nat)(w:World):Calls Tryz.prog 186 #[F64 x,.int .i64 1] w fun e w'=>e= .returned (.bool (decide (zg4 x=5)))/\w'=w:=by
 go_in;go_wp2;go_ret;refine⟨zg6 ?_,rfl⟩;rw[<-zsg,<- zma];rfl
theorem lt0(x:Nat):(FloatKind.f64.format.order x 0==some .lt)=(!nan x&&decide (iv x<0)):=(z5e x 0).trans (yce x)
theorem gt0(x:Nat):(FloatKind.f64.format.order x 0==some .gt)=(!nan x&&decide (0<iv x)):=(zma x 0).trans (z9v x)
theorem zhn(x:Nat)(w:World):Calls Tryz.prog 167 #[F64 x] w fun e w'=>e= .returned (.int .i64 (zg4 x))/\w'=w:=by
 have i:=lt0 x;have b:=gt0 x;go_in;go_wp2_with (first|(go_at_call 185;refine(z2t _ _).mono ?_;rintro e j ⟨rfl,rfl⟩)|(go_at_call 186;(with_reducible refine(zp1 _ _).mono ?_);rintro e j ⟨rfl,rfl⟩)|(go_at_call 186;(with_reducible refine(zps _ _).mono ?_);rintro e j ⟨rfl,rfl⟩));all_goals go_ret
 all_goals refine⟨zf5 ?_,rfl⟩
 all_goals clear i b
 all_goals first
  |exact(zst.2 (by assumption)).symm
  |(have h:=z4r (x:=x) (by assumption);have l:(0:Int)<(INF:Int):=(by decide);omega)
theorem gtxy(x y:Nat):(FloatKind.f64.format.order x y==some .gt)=gtB x y:=zma x y
theorem eqxy(x y:Nat):(FloatKind.f64.format.order x y==some .eq)=eqB x y:=zq7 x y
end

section

open Go.RowKit Fl

end

section

open Go.RowKit Fl

theorem yed(x:Nat):(FloatKind.f64.format.order x 4607182418800017408==some .gt||FloatKind.f64.format.order x 4607182418800017408==some .eq)=(!nan x&&decide ((ONE:Int)<=iv x)):=by
 have b:=gtxy x ONE;have f:=eqxy x ONE;unfold ONE at b f;rw[b,f];show (gtB x ONE||eqB x ONE)=_;unfold gtB eqB;rw[yaf,yfe];cases nan x
 ·simp only[Bool.not_false,Bool.true_and];rw[Bool.eq_iff_iff];simp only[Bool.or_eq_true,decide_eq_true_eq];omega
 rfl
theorem z4a(x:Nat)(n:Int)(C: -9223372036854775808<=n)(z:n<=9223372036854775807)(w:World):Calls Tryz.prog 141 #[F64 x,.int .i64 n] w fun e w'=>e= .returned (.int .i64 (zdr x n))/\w'=w:=by
 have j:=lt0 x;have i:=yed x;have b:=zst (x:=x);unfold zdr;by_cases B:n<1
 ·rw[if_pos (.inl B)];clear j i b;go_in;go_wp2_with (go_at_call 167;refine(zhn _ _).mono ?_;rintro e s ⟨rfl,rfl⟩);go_ret;exact⟨rfl,rfl⟩
 cases h2:nan x
 ·have q:zg4 x≠0:=fun h=>by rw[b.1 h]at h2;cases h2
  have y:(zg4 x==0)=false:=by simpa using q
  rw[h2]at j i;by_cases l:iv x<0
  ·rw[if_pos (.inr (.inr l))];rw[decide_eq_true l]at j;clear i b l;go_in;go_wp2_with (go_at_call 167;refine(zhn _ _).mono ?_;rintro e s ⟨rfl,rfl⟩);go_ret;exact⟨rfl,rfl⟩
  rw[if_neg (by simp only[Bool.false_eq_true,false_or,not_or];exact⟨B,l⟩)];rw[decide_eq_false l]at j;by_cases m:(ONE:Int)<=iv x
  ·rw[if_pos m];rw[decide_eq_true m]at i;clear b l m;go_in;go_wp2_with (go_at_call 167;refine(zhn _ _).mono ?_;rintro e s ⟨rfl,rfl⟩);go_ret;exact⟨rfl,rfl⟩
  rw[if_neg m];rw[decide_eq_false m]at i;obtain⟨r,p,o,E⟩:=zye (x:=x) (n:=n) (by omega) z (by omega) (by omega);generalize (T (zi8 (rung x) (R n.natAbs 0)):Int)=t at *;have D:=fun w:World=>run_float_arith (P:=Tryz.prog) w .mul 33 .f64 _ _ r p;have hc:=fun w:World=>run_convert_float_int (P:=Tryz.prog) w 33 3 .f64 .i64 r t (by kernel_rfl) Tryz.underlying3 o;clear b l m p o;go_in;go_wp2_with (go_at_call 167;refine(zhn _ _).mono ?_;rintro e s ⟨rfl,rfl⟩);all_goals go_ret
  all_goals refine⟨zf5 ?_,rfl⟩
  all_goals omega
 have q:zg4 x=0:=b.2 h2;have y:(zg4 x==0)=true:=by simpa using q
 rw[if_pos (.inr (.inl rfl))];clear j i b q;go_in;go_wp2_with (go_at_call 167;refine(zhn _ _).mono ?_;rintro e s ⟨rfl,rfl⟩);go_ret;exact⟨rfl,rfl⟩
end

section

open Go.RowKit

attribute [local go_sem ↓] Go.wp_at_zero Go.wp_at_succ

def z9c (w w':World) (e:Ending) (s:Sh) (c:Int) (x:Nat):Prop:=Below w.heap.size w w'/\
 if zae s.p s.c s.m c < 0 then e= .returned (.pointer none) else ∃ q,e= .returned (.pointer (some ⟨q,0,.none⟩))/\KlO (fun i=> w.heap.size<=i/\i < w'.heap.size) w' q s (zht c (Fl.zdr x s.p))
theorem z0k(s:Sh)(c:Int)(x:Nat)(w:World)(R: -9223372036854775808<=s.p/\s.p<=9223372036854775807):
  Calls Tryz.prog 108 #[.agg #[.int .i64 s.p,.int .i64 s.c,.int .i64 s.m],.int .i64 c,F64 x] w fun e w'=>z9c w w' e s c x:=by
 have q:=fun W=>zau s.p s.c s.m c W;have z:=fun W=>z4a x s.p R.1 R.2 W;have F:=fun W=>zxv 1 W;unfold z9c
 have C:=hd' (fun (Y W:World) (E S:Nat) (hb:Below w.heap.size w W) (hS:w.heap.size<=S) (V:w.heap.size<=E) (J:E≠S) (G:zaa W E (zat s (zht c (Fl.zdr x s.p)) true .nilIface (.pointer (some ⟨S,0,.none⟩))) 178) (hs:zaa W S #[.slice none 0 0,.int .i64 1] 223)=>(by
  refine⟨fun i hi=>hi.2,⟨V,G.lt⟩,S,.slice none 0 0,.nilIface,fun _=>False,G,⟨Nat.zero_le _,hs,World.ownsRow_nil _ _ _ _,by simp[Value.ownBlock],fun f hf=>by cases hf⟩,fun i hi=>?_,fun i hi=>hi.elim,fun _=>rfl,fun j hj=>by cases hj⟩
  rcases hi with rfl|hi
  ·exact⟨⟨hS,hs.lt⟩,fun e=>J e.symm⟩
  ·exact absurd hi (fun e=>by cases e):KlO (fun i=>w.heap.size<=i/\i<W.heap.size) W E s (zht c (Fl.zdr x s.p))))
 generalize zae s.p s.c s.m c=U at *;generalize Fl.zdr x s.p=sh at *;obtain⟨sp,l,n⟩:=s;dsimp only[zat,zht,Op3.zero]at q z C ⊢;replace q:=hd' q;replace z:=hd' z;replace F:=hd' F;have D:=(Below.refl w.heap.size w).alloc lr (.cells #[.int .i64 sp,.int .i64 l,.int .i64 n] 23);have t0:zaa (w.alloc (.cells #[.int .i64 sp,.int .i64 l,.int .i64 n] 23)) w.heap.size #[.int .i64 sp,.int .i64 l,.int .i64 n] 23:=heap_alloc_new _ _;go_in;go_upto_region 1 with fail;generalize w.alloc (.cells #[.int .i64 sp,.int .i64 l,.int .i64 n] 23)=X at *;obtain⟨H,Z,B⟩:=hidv w.heap.size;rw[<-B]at t0 ⊢;have b0:w.heap.size<=H:=by omega
 clear B;have T:H<X.heap.size:=t0.lt;obtain⟨c0,c1,c2⟩:=ci3 sp l n t0.cell;by_cases hs:U<0
 ·go_wp2_with (go_at_call 57;(with_reducible refine(q.out _).mono ?_);rintro r b ⟨rfl,y⟩);go_returns;refine⟨zab D y,?_⟩;first|rfl|(rw[if_pos hs])
 have b1:decide (U<0)=false:=decide_eq_false hs;go_upto_region 3 with(go_at_call 57;(with_reducible refine(q.out _).mono ?_);rintro r b ⟨rfl,y⟩);have t1:=t0.below y;have o:=zab D y;have I:=t1.drew;have bd:=o.drew;clear T c0 c1 c2 D t0;have T:H<b.drew.heap.size:=I.lt;have hS:=hd' (fun (Y:World) (G:zaa Y H #[.int .i64 sp,.int .i64 l,.int .i64 n] 23)=>(⟨G.cell 0,G.cell 1,G.cell 2⟩:Y.cell? ⟨H,0,.none⟩=some (.int .i64 sp)/\Y.cell? ⟨H,1,.none⟩=some (.int .i64 l)/\Y.cell? ⟨H,2,.none⟩=some (.int .i64 n)))
 go_region_held3 (fun Y=>Y.cell? ⟨H,0,.none⟩=some (.int .i64 sp)/\Y.cell? ⟨H,1,.none⟩=some (.int .i64 l)/\Y.cell? ⟨H,2,.none⟩=some (.int .i64 n))
  (first|exact hS.out _ I|exact hS.out _ (I.alloc _)|exact hS.out _ ((I.alloc _).alloc _))
  (first|(go_at_call 141;(with_reducible refine(z.out _).mono ?_);rintro r w2 ⟨rfl,L⟩;obtain rfl:=L.symm)|(go_at_call 142;(with_reducible refine(F.out _).mono ?_);rintro r w3 ⟨rfl,M⟩;obtain rfl:=M.symm))
 all_goals go_wp2_with fail
 go_returns;have O:(b.alloc (.cells #[.slice none 0 0,.int .i64 1] 223)).heap.size=b.heap.size+1:=size_alloc _ _;have r1:zaa ((b.alloc (.cells #[.slice none 0 0,.int .i64 1] 223)).alloc (.cells #[.int .i64 sp,.int .i64 l,.int .i64 n,.int .i64 c,.int .i64 sh,.int .i64 0,.int .i64 0,.int .i64 0,.nilIface,.bool true,.bool false,.pointer (some ⟨b.heap.size,0,.none⟩),.int .i64 0] 178)) b.heap.size #[.slice none 0 0,.int .i64 1] 223:=zaa.alloc (heap_alloc_new _ _) _;have r2:zaa ((b.alloc (.cells #[.slice none 0 0,.int .i64 1] 223)).alloc (.cells #[.int .i64 sp,.int .i64 l,.int .i64 n,.int .i64 c,.int .i64 sh,.int .i64 0,.int .i64 0,.int .i64 0,.nilIface,.bool true,.bool false,.pointer (some ⟨b.heap.size,0,.none⟩),.int .i64 0] 178)) (b.heap.size+1) #[.int .i64 sp,.int .i64 l,.int .i64 n,.int .i64 c,.int .i64 sh,.int .i64 0,.int .i64 0,.int .i64 0,.nilIface,.bool true,.bool false,.pointer (some ⟨b.heap.size,0,.none⟩),.int .i64 0] 178:=by have h:=heap_alloc_new (b.alloc (.cells #[.slice none 0 0,.int .i64 1] 223)) (.cells #[.int .i64 sp,.int .i64 l,.int .i64 n,.int .i64 c,.int .i64 sh,.int .i64 0,.int .i64 0,.int .i64 0,.nilIface,.bool true,.bool false,.pointer (some ⟨b.heap.size,0,.none⟩),.int .i64 0] 178);rw[O]at h;exact h
 have N:Below w.heap.size w ((b.alloc (.cells #[.slice none 0 0,.int .i64 1] 223)).alloc (.cells #[.int .i64 sp,.int .i64 l,.int .i64 n,.int .i64 c,.int .i64 sh,.int .i64 0,.int .i64 0,.int .i64 0,.nilIface,.bool true,.bool false,.pointer (some ⟨b.heap.size,0,.none⟩),.int .i64 0] 178)).drew:=((o.alloc o.size (.cells #[.slice none 0 0,.int .i64 1] 223)).alloc (by rw[O];have:=o.size;omega) (.cells #[.int .i64 sp,.int .i64 l,.int .i64 n,.int .i64 c,.int .i64 sh,.int .i64 0,.int .i64 0,.int .i64 0,.nilIface,.bool true,.bool false,.pointer (some ⟨b.heap.size,0,.none⟩),.int .i64 0] 178)).drew;refine⟨N,?_⟩;try rw[if_neg hs]
 exact⟨_,rfl,C.out w _ (b.heap.size+1) b.heap.size N o.size (by have:=o.size;omega) (by omega) r2.drew r1.drew⟩
end

section

open Go.RowKit Fl

structure Ch where
 kind:Int
 client:Int
 ok:Int
 oa:Int
 on:Int
 bias:Nat
 deriving DecidableEq
def Ch.cells (c:Ch):List Value:= [.int .i64 c.kind,.int .i64 c.client,.int .i64 c.ok,.int .i64 c.oa,.int .i64 c.on,.float .f64 c.bias]
def zdm (xs:List Ch):List Value:=xs.flatMap Ch.cells
theorem zmn(xs:List Ch)(i j:Nat)(hi:i<xs.length)(l:j<6):(zdm xs)[i*6+j]?=(xs[i].cells)[j]?:=by
 induction xs generalizing i with
 |nil=>simp at hi
 |cons x xs f=>
  have b:x.cells.length=6:=rfl
  show (x.cells++zdm xs)[i*6+j]?=_
  cases i with
  |zero=>rw[List.getElem?_append_left (by omega)];simp
  |succ i=>
   rw[List.getElem?_append_right (by omega),b,show (i+1)*6+j-6=i*6+j from by omega]
   simpa using f i (by simpa using hi)
def RdC (w:World) (v:Value) (xs:List Ch):Prop:=∃ ao cap,v= .slice ao xs.length cap/\xs.length<=cap/\(cap:Int)<=9223372036854775807/\
 (xs≠ []->∃ b off,ao=some ⟨b,off,.none⟩/\b < w.heap.size/\∀ i j,(hi:i < xs.length)->j < 6->w.cell? ⟨b,off + i * 6 + j,.none⟩=(xs[i].cells)[j]?)
theorem RdC.below{w w':World}{v:Value}{xs:List Ch}(h:RdC w v xs)(hb:Below w.heap.size w w'):RdC w' v xs:=
 let ⟨ao,cap,e,h1,h2,h3⟩:=h
 ⟨ao,cap,e,h1,h2,fun l=>let ⟨b,off,ea,hlt,hc⟩:=h3 l;⟨b,off,ea,Nat.lt_of_lt_of_le hlt hb.size,fun i j hi f=>(hb.cell (p:=⟨b,_,.none⟩) hlt).trans (hc i j hi f)⟩⟩
abbrev OwnC (E:TypeId) (B:Nat) (w:World) (v:Value) (xs:List Ch):Prop:=w.ownsRow B E 6 v xs.length (zdm xs)
theorem OwnC.rd{E:TypeId}{B:Nat}{w:World}{v:Value}{xs:List Ch}(h:OwnC E B w v xs):RdC w v xs:=by
 rcases h.2 with⟨l,b⟩|⟨g,cap,f,rfl,l,b,m,n,q,o⟩
 ·have:xs= []:=List.eq_nil_of_length_eq_zero b;subst this;exact⟨none,0,l,Nat.le_refl _,by omega,fun h=>absurd rfl h⟩
 refine⟨_,cap,rfl,m,by simp only[maxLen]at n;omega,fun _=>⟨g,0,rfl,(Array.getElem?_eq_some_iff.1 b).1,fun i j hi p=>?_⟩⟩;rw[cell_of_row w g _ f E (0,0) b,<- zmn xs i j hi p,<- o,List.getElem?_take,if_pos (by omega)];simp
theorem OwnC.nil(E:TypeId)(B:Nat)(w:World):OwnC E B w (.slice none 0 0) []:=⟨rfl,.inl ⟨rfl,rfl⟩⟩
end

end Go.Proofs.YtkbddndcegpllaaGreat

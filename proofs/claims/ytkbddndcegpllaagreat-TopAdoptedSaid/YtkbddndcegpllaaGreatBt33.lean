/- Texts bound together: CliY CliZ WldP JudP ActP SolP CliG LwC. -/
import Derived.Test.YtkbddndcegpllaaGreatBt30

import Derived.Test.YtkbddndcegpllaaGreatBt32

import Derived.Test.YtkbddndcegpllaaGreatBt29

set_option linter.all false
set_option maxHeartbeats 4000000
set_option maxRecDepth 100000
namespace Go.Proofs.YtkbddndcegpllaaGreat

attribute [local go_sem] zat

section

open Go.RowKit

attribute [local go_sem ↓] Go.wp_at_zero Go.wp_at_succ

theorem z8b{F:Nat->Prop}{w:World}{v:Value}{s:Sh}{cl:Int}{j:Jb}(h:JbO F w v s cl j):∃ T x,v= .iface T x:=by
 cases j<;>(obtain⟨q,e,_⟩:=h;exact⟨_,_,e⟩)
structure zyn (F:Nat->Prop) (q:Nat) (w w':World) (r:Ending) (s:Sh) (k:Kl) (o:Op3):Prop where
 ret:∃ v,r= .returned (.tuple #[v,.int .i64 (k.invoke s o).2.2])/\w'.ownsRow w.heap.size 66 8 v (k.invoke s o).2.1.length ((k.invoke s o).2.1.flatMap fun e=> e.cells.toList)
 kl:KlO (grow F w w') w' q s (k.invoke s o).1
 only:Only F w w'
 kl0:(k.invoke s o).1.job=none->KlO F w' q s (k.invoke s o).1
theorem zv4{F:Nat->Prop}{q:Nat}{s:Sh}{k:Kl}{o:Op3}{w:World}(h:KlO F w q s k)(i:k.rests=false\/(k.rests=true/\(o.k<1\/4<o.k))):
  Calls Tryz.prog 60 #[some q,.agg #[o.k,o.a,o.n]] w fun r w'=>zyn F q w w' r s k o:=by
 obtain⟨ok,oa,on⟩:=o;dsimp only at i ⊢;have z:=(Below.refl w.heap.size w).alloc lr (.cells #[ok,oa,on] 32);have G:zaa (w.alloc (.cells #[ok,oa,on] 32)) w.heap.size #[ok,oa,on] 32:=heap_alloc_new _ _;have l:=(h.below z).rests;have D:Hid (∀ W x,Below w.heap.size w W->k.invoke s ⟨ok,oa,on⟩=(k, [],x)->zyn F q w W (.returned (.tuple #[.slice none 0 0,.int .i64 x])) s k ⟨ok,oa,on⟩):=hd' fun W x hb j=>by
  refine⟨⟨_,by rw[j],?_⟩,?_,Only.of_below hb,fun _=>by rw[j];exact h.below hb⟩
  ·rw[j];exact zel _ _
  rw[j];exact(h.below hb).weak (fun b hb=>.inl hb) (zec h.lt hb.size)
 have L:∀ W:World,(binOp .eql 61 (.pointer (some ⟨q,0,.none⟩)) (.pointer none)).run Tryz.prog W= .ok (.bool false) W:=fun W=>by kernel_rfl
 have I:(k.rests=false/\k.invoke s ⟨ok,oa,on⟩=(k, [],4))\/(k.rests=true/\ok<1/\k.invoke s ⟨ok,oa,on⟩=(k, [],1))\/(k.rests=true/\decide (ok<1)=false/\4<ok/\k.invoke s ⟨ok,oa,on⟩=(k, [],1)):=by
  rcases i with i|⟨i,O⟩
  ·exact .inl ⟨i,by unfold Kl.invoke;rw[if_pos i]⟩
  have e:k.invoke s ⟨ok,oa,on⟩=(k, [],1):=by unfold Kl.invoke;rw[if_neg (by rw[i];decide),if_pos O]
  by_cases E:ok<1
  ·exact .inr (.inl ⟨i,E,e⟩)
  exact .inr (.inr ⟨i,decide_eq_false E,by omega,e⟩)
 clear i h;rcases I with⟨j,C⟩|⟨j,E,C⟩|⟨j,E,R,C⟩;all_goals rw[j]at l;replace l:=hd' l;replace C:=hd' C;clear j;go_in;go_upto_region 1 with fail;generalize w.alloc (.cells #[ok,oa,on] 32)=X at *;obtain⟨H,N,y⟩:=hidv w.heap.size;rw[<-y]at G ⊢;clear y;have S:H<X.heap.size:=G.lt;have M:=G.cell;go_wp2_with (go_at_call 83;(with_reducible refine l.out.mono ?_);rintro r T ⟨rfl,J⟩;obtain rfl:=J.symm);go_returns;exact D.out _ _ z C.out
theorem z4b{F:Nat->Prop}{q:Nat}{s:Sh}{k:Kl}{o:Op3}{w:World}(h:KlO F w q s k)(hj:k.job=none)(hk:1<=o.k/\o.k<=4):
  Calls Tryz.prog 60 #[some q,.agg #[o.k,o.a,o.n]] w fun r w'=>zyn F q w w' r s k o:=by
 have ca:k.rests=true:=by unfold Kl.rests;rw[hj];rfl
 have y:k.invoke s o=if ziu s k.c o.k o.a o.n=true then({k with op:=o,told:=false,steps:=0}, [zbh k.c o,zaf k.c o 0 (zjw s k.c o.k o.a o.n)],0) else({k with op:=o,told:=false,steps:=0,job:=some (zgl s k.c k.first o.k o.a o.n)}, [zbh k.c o],0):=by unfold Kl.invoke;rw[if_neg (by rw[ca];decide),if_neg (by omega)]
 have b8:=(Below.refl w.heap.size w).alloc lr (.cells #[o.k,o.a,o.n] 32);have hH:zaa (w.alloc (.cells #[o.k,o.a,o.n] 32)) w.heap.size #[o.k,o.a,o.n] 32:=heap_alloc_new _ _;have bf:=(h.below b8).rests;rw[ca]at bf;replace bf:=hd' bf;have eu:∀ W:World,(binOp .eql 61 (.pointer (some ⟨q,0,.none⟩)) (.pointer none)).run Tryz.prog W= .ok (.bool false) W:=fun W=>by kernel_rfl
 obtain⟨hF,hq,sp,sl,jv,G,bg,bi,M,hG,_,_⟩:=h;have hi:(!k.job.isSome)=true:=by rw[hj];rfl
 rw[hi]at bg;have cm:zdv k= []:=by unfold zdv;rw[hj]
 rw[cm]at bi;have I:∀ i,(i=q\/foot sp sl i)->i<w.heap.size:=fun i hi=>by rcases hi with rfl|hi;exact hF _ hq;exact hF i (M i hi).1
 have z:=fun W=>zyq s k.c o.k o.a o.n W hk;have E:=fun (W:World) (i:Bool) (jv:Value) (hr:zaa W q (zat s {k with op:=o,told:=false,steps:=0} i jv (.pointer (some ⟨sp,0,.none⟩))) 178)=>zue (k:= {k with op:=o,told:=false,steps:=0}) hr hk
 have N:=hd' (fun (W:World) (v:Value) (hB:ziu s k.c o.k o.a o.n=true) (hr:zaa W q (zat s {k with op:=o,told:=false,steps:=0} true .nilIface (.pointer (some ⟨sp,0,.none⟩))) 178) (hs:SK 0 W sp (.slice none 0 0) 1 []) (ho:Only F w W) (hv:W.ownsRow w.heap.size 66 8 v 2 ((zbh k.c o).cells.toList++(zaf k.c o 0 (zjw s k.c o.k o.a o.n)).cells.toList))=>(by
  rw[if_pos hB]at y
  have h0:KlO F W q s {k with op:=o,told:=false,steps:=0}:=by
   refine⟨fun i hi=>Nat.lt_of_lt_of_le (hF i hi) ho.size,hq,sp,.slice none 0 0,.nilIface,fun _=>False,?_,?_,fun i hi=>?_,fun i hi=>hi.elim,fun _=>rfl,fun x hx=>?_⟩
   ·have e:(!k.job.isSome)=true:=hi
    show zaa W q (zat s _ (!k.job.isSome) _ _) _
    rw[e];exact hr
   ·have e:zdv {k with op:=o,told:=false,steps:=0}= []:=by unfold zdv;rw[show ({k with op:=o,told:=false,steps:=0}:Kl).job=none from hj]
    rw[e];exact hs
   ·rcases hi with rfl|hi
    ·exact⟨(M _ (.inl rfl)).1,(M _ (.inl rfl)).2⟩
    ·cases hi
   ·have hx:k.job=some x:=hx
    rw[hj]at hx;exact absurd hx (fun e=>by cases e)
  exact⟨⟨v,by rw[y],by rw[y];exact hv⟩,by rw[y];exact h0.weak (fun _ hi=>.inl hi) (zec hF ho.size),ho,fun _=>by rw[y];exact h0⟩:zyn F q w W (.returned (.tuple #[v,.int .i64 0])) s k o))
 have b0:=hd' (fun (W:World) (v jv D:Value) (H:Nat->Prop) (hB:ziu s k.c o.k o.a o.n=false) (hr:zaa W q (zat s {k with op:=o,told:=false,steps:=0} false jv (.pointer (some ⟨sp,0,.none⟩))) 178) (hs:SK 0 W sp D 1 [⟨o.k,0, [o.a,o.n,0,0,0,0,0,0]⟩]) (e8:∀ i,foot sp D i->foot sp sl i\/(w.heap.size<=i/\i<W.heap.size)) (hH:∀ i,H i->w.heap.size<=i/\i<W.heap.size) (hd:∀ i,H i->¬ foot sp D i) (hJ:JbO H W jv s k.c (zgl s k.c k.first o.k o.a o.n)) (ho:Only F w W) (hv:W.ownsRow w.heap.size 66 8 v 1 (zbh k.c o).cells.toList)=>(by
  rw[if_neg (by rw[hB];decide)]at y
  refine⟨⟨v,by rw[y],?_⟩,?_,ho,fun e=>by rw[y]at e;exact absurd e (fun e=>by cases e)⟩
  ·rw[y];exact hv
  ·rw[y]
   refine⟨zec hF ho.size,.inl hq,sp,D,jv,H,hr,hs,fun i hi=>?_,fun i hi=>⟨.inr (hH i hi),fun e=>by have:=I i (.inl e);have:=hH i hi;omega,hd i hi⟩,fun e=>(by cases e),fun x hx=>?_⟩
   ·rcases e8 i hi with l|l
    ·exact⟨.inl (M i l).1,(M i l).2⟩
    ·exact⟨.inr l,fun e=>by have:=I i (.inl e);omega⟩
   ·injection hx with hx
    subst hx
    exact hJ:zyn F q w W (.returned (.tuple #[v,.int .i64 0])) s k o))
 clear y ca hi cm hj;have C:=bg.below b8;have bn:=bi.below b8;generalize bw:ziu s k.c o.k o.a o.n=ob at *;generalize zjw s k.c o.k o.a o.n=oe at *;obtain⟨ok,oa,on⟩:=o;obtain⟨kc,kf,⟨f5,f4,f6⟩,kj,kt,ks⟩:=k;dsimp only at z E N b0 ⊢;generalize zgl s kc kf ok oa on=jn at *;obtain⟨cd,sc,sm⟩:=s;dsimp only[zat]at C E N b0 z;clear bg bi bw;go_in;go_upto_region 1 with fail;generalize w.alloc (.cells #[ok,oa,on] 32)=X at *;obtain⟨H,ey,c5⟩:=hidv w.heap.size;rw[<-c5]at hH ⊢;have ez:w.heap.size<=H:=by omega
 clear c5;have lH:H<X.heap.size:=hH.lt;have cs:=hH.cell;have e3:decide (ok<1)=false:=decide_eq_false (by have:1<=ok:=hk.1;omega);have e4:decide (4<ok)=false:=decide_eq_false (by have:ok<=4:=hk.2;omega);have em:q<X.heap.size:=C.lt;have fX:=zax C;have cu:=C.cell;have e6:H≠q:=fun e=>by have:=I q (.inl rfl);omega
 go_upto_region 8 with(go_at_call 83;(with_reducible refine bf.out.mono ?_);rintro r w1 ⟨rfl,eb⟩;obtain rfl:=eb.symm);have S:zaa ((((((X.setCell ⟨q,5,.none⟩ (.int .i64 ok)).setCell ⟨q,6,.none⟩ (.int .i64 oa)).setCell ⟨q,7,.none⟩ (.int .i64 on)).setCell ⟨q,9,.none⟩ (.bool false)).setCell ⟨q,10,.none⟩ (.bool false)).setCell ⟨q,12,.none⟩ (.int .i64 0)) q #[cd,sc,sm,kc,kf,ok,oa,on,jv,.bool false,.bool false,some sp,.int .i64 0] 178:=((((((C.set 5 (.int .i64 ok)).set 6 (.int .i64 oa)).set 7 (.int .i64 on)).set 9 (.bool false)).set 10 (.bool false)).set 12 (.int .i64 0));have oq:Only (fun i=>i=q) X ((((((X.setCell ⟨q,5,.none⟩ (.int .i64 ok)).setCell ⟨q,6,.none⟩ (.int .i64 oa)).setCell ⟨q,7,.none⟩ (.int .i64 on)).setCell ⟨q,9,.none⟩ (.bool false)).setCell ⟨q,10,.none⟩ (.bool false)).setCell ⟨q,12,.none⟩ (.int .i64 0)):=Only.setCell (F:=fun i=>i=q) (Only.setCell (F:=fun i=>i=q) (Only.setCell (F:=fun i=>i=q) (Only.setCell (F:=fun i=>i=q) (Only.setCell (F:=fun i=>i=q) (Only.setCell (F:=fun i=>i=q) (Only.refl _ _) (.inl rfl) _) (.inl rfl) _) (.inl rfl) _) (.inl rfl) _) (.inl rfl) _) (.inl rfl) _;have bj:=oq.stk bn (fun i hi e=>(M i hi).2 e);have bs:=hH.only oq e6;have cb:Only (fun i=>i=q\/foot sp sl i) w ((((((X.setCell ⟨q,5,.none⟩ (.int .i64 ok)).setCell ⟨q,6,.none⟩ (.int .i64 oa)).setCell ⟨q,7,.none⟩ (.int .i64 on)).setCell ⟨q,9,.none⟩ (.bool false)).setCell ⟨q,10,.none⟩ (.bool false)).setCell ⟨q,12,.none⟩ (.int .i64 0)):=(Only.of_below b8).trans oq (fun i _ hi=>.inl hi);have ea:=oq.size;generalize ((((((X.setCell ⟨q,5,.none⟩ (.int .i64 ok)).setCell ⟨q,6,.none⟩ (.int .i64 oa)).setCell ⟨q,7,.none⟩ (.int .i64 on)).setCell ⟨q,9,.none⟩ (.bool false)).setCell ⟨q,10,.none⟩ (.bool false)).setCell ⟨q,12,.none⟩ (.int .i64 0))=w2 at *;clear C bn hH b8 lH cs e3 e4 em fX cu bf oq;have cj:w.heap.size<=w2.heap.size:=cb.size;have ej:q<w2.heap.size:=S.lt;have eg:H<w2.heap.size:=bs.lt;have bA:Below w2.heap.size w2 (w2.alloc (.cells #[oa,on] 2)).drew:=(br.alloc lr _).drew;have hA:zaa (w2.alloc (.cells #[oa,on] 2)).drew w2.heap.size #[oa,on] 2:=zaa.drew (heap_alloc_new _ _)
 have R:Calls Tryz.prog 112 #[some sp,ok,.slice (some ⟨w2.heap.size,0,.none⟩) 2 2] (w2.alloc (.cells #[oa,on] 2)).drew fun e w'=>e= .returned (.bool true)/\Only (foot sp sl) (w2.alloc (.cells #[oa,on] 2)).drew w'/\∃ D,(∀ k,D.ownBlock=some k->sl.ownBlock=some k\/(w2.alloc (.cells #[oa,on] 2)).drew.heap.size<=k)/\SK 0 w' sp D 1 [⟨ok,0, [oa,on,0,0,0,0,0,0]⟩]:=zt0 (w:=(w2.alloc (.cells #[oa,on] 2)).drew) (code:=ok) (ao:=some ⟨w2.heap.size,0,.none⟩) (zs:= [oa,on]) (cap:=2) (bj.below bA) (by simp) (by simp) (Nat.zero_le _) (by decide) (fun a ha j v hv=>by
  injection ha with ha
  subst ha
  rw[zqn,Nat.zero_add,hA.cell j]
  rcases j with _|_|j
  ·exact hv
  ·exact hv
  ·simp at hv) (fun e=>by cases e)
 replace R:=hd' R;have T:=S.drew;have b6:=bs.drew;have b2:=S.below bA;have c7:=bs.below bA;have hS:=hd' (fun (Y:World) (hr:zaa Y q #[cd,sc,sm,kc,kf,ok,oa,on,jv,.bool false,.bool false,some sp,.int .i64 0] 178) (hb:zaa Y H #[ok,oa,on] 32)=>(⟨hr.cell 11,hb.cell 0,hb.cell 1,hb.cell 2⟩:Y.cell? ⟨q,11,.none⟩=some (.pointer (some ⟨sp,0,.none⟩))/\Y.cell? ⟨H,0,.none⟩=some (.int .i64 ok)/\Y.cell? ⟨H,1,.none⟩=some (.int .i64 oa)/\Y.cell? ⟨H,2,.none⟩=some (.int .i64 on)));have bc:¬ foot sp sl q:=fun e=>(M q e).2 rfl;have cg:¬ foot sp sl H:=fun e=>by have:=I H (.inr e);omega
 go_region_held3 (fun Y=>Y.cell? ⟨q,11,.none⟩=some (.pointer (some ⟨sp,0,.none⟩))/\Y.cell? ⟨H,0,.none⟩=some (.int .i64 ok)/\Y.cell? ⟨H,1,.none⟩=some (.int .i64 oa)/\Y.cell? ⟨H,2,.none⟩=some (.int .i64 on))
  (first|exact hS.out _ T b6|exact hS.out _ b2 c7|exact hS.out _ (T.alloc _) (b6.alloc _)|exact hS.out _ J b7)
  (first|(go_at_call 112;(with_reducible refine R.out.mono ?_);rintro r w3 ⟨rfl,bx,D,c6,b3⟩;have J:=b2.only bx bc;have b7:=c7.only bx cg))
 have bp:Only (fun i=>i=q\/foot sp sl i) w w3:=(cb.trans (Only.of_below (F:=fun _=>False) bA) (fun _ _ l=>l.elim)).trans bx (fun i _ hi=>.inr hi);have cq:∀ i,foot sp D i->foot sp sl i\/(w.heap.size<=i/\i<w3.heap.size):=fun i hi=>by
  rcases hi with rfl|hi
  ·exact .inl (.inl rfl)
  rcases c6 i hi with l|l
  ·exact .inl (.inr l)
  have h1:=bA.size;exact .inr ⟨by omega,(b3.zem i hi).2⟩
 clear S bj bs cb ea cj ej eg bA hA R T b6 b2 c7 hS bx c6 cg bc;go_upto_region 9 with fail;have cj:w.heap.size<=w3.heap.size:=bp.size;have ek:q<w3.heap.size:=J.lt;have eh:H<w3.heap.size:=b7.lt;have cv:=b7.cell;have cx:=J.cell;refine zad 6 (by kernel_rfl) (by kernel_rfl) ?_;dsimp only[List.take,List.drop];repeat (go_big_quiet_step (fail))
 refine wpQuiet_nil ?_;rintro _ ⟨e',rfl⟩;have bh:=J.below e'.below;have bk:=b3.below e'.below;have cf:=b7.below e'.below;have cr:=bp.trans (Only.of_below (F:=fun _=>False) e'.below) (fun _ _ l=>l.elim);have f0:=e'.below.size;generalize e'.w=w4 at *;change wpList _ _ _ _ _ w4;clear J b3 b7 bp ek eh cv cx;go_upto_region 10 with fail;have ba:Below w4.heap.size w4 (w4.alloc (.cells (zbh kc ⟨ok,oa,on⟩).cells 66)):=br.alloc lr _;have O:(w4.alloc (.cells (zbh kc ⟨ok,oa,on⟩).cells 66)).ownsRow w.heap.size 66 8 (.slice (some ⟨w4.heap.size,0,.none⟩) 1 1) 1 (zbh kc ⟨ok,oa,on⟩).cells.toList:=World.ownsRow_lit w4 (zbh kc ⟨ok,oa,on⟩).cells 1 (by omega) (by decide) rfl;have L:=bh.below ba;have b4:=bk.below ba;have bu:=cf.below ba;have bz:=cr.trans (Only.of_below (F:=fun _=>False) ba) (fun _ _ l=>l.elim);have cp:w4.heap.size<(w4.alloc (.cells (zbh kc ⟨ok,oa,on⟩).cells 66)).heap.size:=by rw[size_alloc];omega
 dsimp only[zbh,Ev.cells]at L b4 bu bz O cp;generalize w4.alloc (.cells #[.int .i64 2,kc,ok,oa,on,.int .i64 0,.int .i64 0,.int .i64 0] 66)=w5 at *;clear bh bk cf cr ba;obtain⟨B,e0,c4⟩:=hidv w4.heap.size;rw[<-c4]at O cp ⊢;have ex:w.heap.size<=B:=by omega
 have ew:w3.heap.size<=B:=by omega
 clear c4 e0;have es:w.heap.size<=w5.heap.size:=bz.size;have Z:∀ i,foot sp D i->foot sp sl i\/(w.heap.size<=i/\i<B):=fun i hi=>by
  rcases cq i hi with l|l
  ·exact .inl l
  exact .inr ⟨l.1,by omega⟩
 have el:q<w5.heap.size:=L.lt;have ei:H<w5.heap.size:=bu.lt;have cy:=bu.cell;have cz:=L.cell;replace z:=hd' z;refine zaj (by kernel_rfl) (by kernel_rfl) ?_;repeat (go_big_quiet_step (((go_at_call 113;exact zam (z.out _)))))
 refine wpQuiet_nil ?_;rintro _ ⟨e',rfl⟩;have U:=L.below e'.below;have bm:=b4.below e'.below;have bq:=bz.trans (Only.of_below (F:=fun _=>False) e'.below) (fun _ _ l=>l.elim);have b1:=zav O e'.below;have f1:=e'.below.size;generalize e'.w=w6 at *;clear L b4 bz O cy cz el ei z bu;obtain⟨i0,e2,ec,ed,ef⟩:=info_parts zdb;have bc:¬ foot sp D q:=fun e=>by
  rcases Z q e with l|l
  ·exact(M q l).2 rfl
  have:=I q (.inl rfl);omega
 have e1:¬ foot sp D B:=fun e=>by
  rcases Z B e with l|l
  ·have:=I B (.inr l);omega
  omega
 have e5:B≠q:=fun e=>by have:=I q (.inl rfl);omega
 cases ob;case true=>
  have b5:=zbn (s:=⟨cd,sc,sm⟩) (k:=⟨kc,kf,⟨ok,oa,on⟩,kj,false,0⟩) (i:=false) (jv:=jv) oe 0 U bm bc;dsimp only[zat,Ev.val,Ev.cells,zaf]at b5;replace b5:=hd' b5;have ck:w.heap.size<=w6.heap.size:=bq.size;go_wp2_with (first|(go_at_call 114;(with_reducible refine b5.out.mono ?_);rintro r w8 ⟨rfl,h8,e7,cc⟩;have bb:=zas b1 (fun i hi=>cc.block i (b1.lt i hi).2 (fun e=>by(have:B=i:=by injection hi);subst this;exact e.elim e5 e1));have cl:w.heap.size<=w8.heap.size:=Nat.le_trans ck cc.size)|(refine zay rfl (.tmp 71) (.tmp 75) 63 rfl w.heap.size 66 i0 _ 8 64 Tryz.underlying63 e2 ec ed ef rfl (by omega) _ 1 (zbh kc ⟨ok,oa,on⟩).cells.toList rfl (zav bb (br.alloc lr _)) _ 1 (zaf kc ⟨ok,oa,on⟩ 0 oe).cells.toList rfl (evRd (zaf kc ⟨ok,oa,on⟩ 0 oe) _) (zfo _) (by simp only[maxLen];omega) (by omega) (by simp;omega) ?_;intro v9 w9 c9 bv er;have c8:=zaw ((Below.refl w.heap.size w8).alloc cl (.cells (zaf kc ⟨ok,oa,on⟩ 0 oe).cells 66)) (zav bb (br.alloc lr _)) (by simp;omega) bv));go_returns;have lq:=I q (.inl rfl)
  have ep:Only (fun i=>i=q\/foot sp sl i) w w9:=zfp (bq.trans cc (fun i hi l=>by
   rcases l with l|l
   ·exact .inl l
   ·rcases Z i l with e|e
    ·exact .inr e
    ·omega)) c8
  exact N.out w9 v9 trivial (h8.belB c8 lq) ((zdy c8).stk e7 (fun i hi e=>by
   rcases hi with rfl|hi
   ·have:=I _ (.inr (.inl rfl));omega
   ·cases hi)) (ep.weak (fun i hi=>by
   rcases hi with rfl|hi
   ·exact hq
   ·exact(M i hi).1)) c9
 case false=>
  have e9:=hd' (E w6 false jv U);have l6:q<w6.heap.size:=U.lt;clear N E;go_wp2_with (first|(go_at_call 115;(with_reducible refine e9.out.mono ?_);rintro r w7 ⟨f3,rfl,ch,b9⟩;obtain⟨T2,x2,rfl⟩:=z8b ch;have V:=U.below b9;have ev:=V.cell;have zf:=zax V;have l7:=V.lt));go_returns;have lq:=I q (.inl rfl);have f2:=b9.size;have hW:(w7.setCell ⟨q,8,.none⟩ (.iface T2 x2)).heap.size=w7.heap.size:=size_set _ _ _;have oq:Only (fun i=>i=q) w7 (w7.setCell ⟨q,8,.none⟩ (.iface T2 x2)):=Only.setCell (F:=fun i=>i=q) (Only.refl _ _) (.inl rfl) _;refine b0.out _ _ (.iface T2 x2) D (fun i=>w6.heap.size<=i/\i<w7.heap.size) trivial (V.set 8 (.iface T2 x2)) (oq.stk (bm.below b9) (fun i hi e=>bc (e ▸ hi))) (fun i hi=>?_) (fun i hi=>⟨Nat.le_trans bq.size hi.1,by rw[hW];exact hi.2⟩) (fun i hi e=>?_) (ch.only oq (fun i hi e=>by omega)) ?_ ?_
  ·rcases Z i hi with l|l
   ·exact .inl l
   exact .inr ⟨l.1,by omega⟩
  ·rcases Z i e with l|l
   ·have:=I i (.inr l);have:=bq.size;omega
   omega
  ·refine((bq.trans (Only.of_below (F:=fun _=>False) b9) (fun _ _ l=>l.elim)).trans oq (fun i _ l=>.inl l)).weak (fun i hi=>?_);rcases hi with rfl|hi
   ·exact hq
   exact(M i hi).1
  exact zkk (zav b1 b9) oq (fun i hi e=>by omega)
theorem z3l{F:Nat->Prop}{q:Nat}{s:Sh}{k:Kl}{o:Op3}{w:World}(h:KlO F w q s k):
  Calls Tryz.prog 60 #[some q,.agg #[o.k,o.a,o.n]] w fun r w'=>zyn F q w w' r s k o:=by
 rcases hj:k.job with _|j
 ·have i:k.rests=true:=by unfold Kl.rests;rw[hj];rfl
  by_cases l:1<=o.k/\o.k<=4
  ·exact z4b h hj l
  exact zv4 h (.inr ⟨i,by omega⟩)
 have i:k.rests=false:=by unfold Kl.rests;rw[hj];rfl
 exact zv4 h (.inl i)
def z9c (w w':World) (e:Ending) (s:Sh) (c:Int) (x:Nat):Prop:=Below w.heap.size w w'/\
 if zae s.p s.c s.m c < 0 then e= .returned (.pointer none) else ∃ q,e= .returned (.pointer (some ⟨q,0,.none⟩))/\KlO (fun i=> w.heap.size<=i/\i < w'.heap.size) w' q s (zht c (Fl.zdr x s.p))
theorem z0k(s:Sh)(c:Int)(x:Nat)(w:World)(hp: -9223372036854775808<=s.p/\s.p<=9223372036854775807):
  Calls Tryz.prog 108 #[.agg #[s.p,s.c,s.m],c,F64 x] w fun e w'=>z9c w w' e s c x:=by
 have z:=fun W=>zau s.p s.c s.m c W;have D:=fun W=>z4a x s.p hp.1 hp.2 W;have L:=fun W=>zxv 1 W;unfold z9c
 have I:=hd' (fun (Y W:World) (E S:Nat) (hb:Below w.heap.size w W) (hS:w.heap.size<=S) (hE:w.heap.size<=E) (R:E≠S) (M:zaa W E (zat s (zht c (Fl.zdr x s.p)) true .nilIface (.pointer (some ⟨S,0,.none⟩))) 178) (hs:zaa W S #[.slice none 0 0,.int .i64 1] 223)=>(by
  refine⟨fun i hi=>hi.2,⟨hE,M.lt⟩,S,.slice none 0 0,.nilIface,fun _=>False,M,⟨Nat.zero_le _,hs,World.ownsRow_nil _ _ _ _,by simp[Value.ownBlock],fun f hf=>by cases hf⟩,fun i hi=>?_,fun i hi=>hi.elim,fun _=>rfl,fun j hj=>by cases hj⟩
  rcases hi with rfl|hi
  ·exact⟨⟨hS,hs.lt⟩,fun e=>R e.symm⟩
  ·exact absurd hi (fun e=>by cases e):KlO (fun i=>w.heap.size<=i/\i<W.heap.size) W E s (zht c (Fl.zdr x s.p))))
 generalize zae s.p s.c s.m c=sx at *;generalize Fl.zdr x s.p=sh at *;obtain⟨sp,o,y⟩:=s;dsimp only[zat,zht,Op3.zero]at z D I ⊢;replace z:=hd' z;replace D:=hd' D;replace L:=hd' L;have J:=(Below.refl w.heap.size w).alloc lr (.cells #[sp,o,y] 23);have t0:zaa (w.alloc (.cells #[sp,o,y] 23)) w.heap.size #[sp,o,y] 23:=heap_alloc_new _ _;go_in;go_upto_region 1 with fail;generalize w.alloc (.cells #[sp,o,y] 23)=X at *;obtain⟨H,b0,G⟩:=hidv w.heap.size;rw[<-G]at t0 ⊢;have b1:w.heap.size<=H:=by omega
 clear G;have lH:H<X.heap.size:=t0.lt;have O:=t0.cell;by_cases hs:sx<0
 ·go_wp2_with (go_at_call 57;(with_reducible refine(z.out _).mono ?_);rintro r l ⟨rfl,C⟩);go_returns;refine⟨zab J C,?_⟩;first|rfl|(rw[if_pos hs])
 have b3:decide (sx<0)=false:=decide_eq_false hs;go_upto_region 3 with(go_at_call 57;(with_reducible refine(z.out _).mono ?_);rintro r l ⟨rfl,C⟩);have t1:=t0.below C;have n:=zab J C;have N:=t1.drew;have bd:=n.drew;clear lH O J t0;have lH:H<l.drew.heap.size:=N.lt;have hS:=hd' (fun (Y:World) (M:zaa Y H #[sp,o,y] 23)=>(⟨M.cell 0,M.cell 1,M.cell 2⟩:Y.cell? ⟨H,0,.none⟩=some (.int .i64 sp)/\Y.cell? ⟨H,1,.none⟩=some (.int .i64 o)/\Y.cell? ⟨H,2,.none⟩=some (.int .i64 y)))
 go_region_held3 (fun Y=>Y.cell? ⟨H,0,.none⟩=some (.int .i64 sp)/\Y.cell? ⟨H,1,.none⟩=some (.int .i64 o)/\Y.cell? ⟨H,2,.none⟩=some (.int .i64 y))
  (first|exact hS.out _ N|exact hS.out _ (N.alloc _)|exact hS.out _ ((N.alloc _).alloc _))
  (first|(go_at_call 141;(with_reducible refine(D.out _).mono ?_);rintro r w2 ⟨rfl,T⟩;obtain rfl:=T.symm)|(go_at_call 142;(with_reducible refine(L.out _).mono ?_);rintro r w3 ⟨rfl,U⟩;obtain rfl:=U.symm))
 all_goals go_wp2_with fail
 go_returns;have Z:(l.alloc (.cells #[.slice none 0 0,.int .i64 1] 223)).heap.size=l.heap.size+1:=size_alloc _ _;have r1:zaa ((l.alloc (.cells #[.slice none 0 0,.int .i64 1] 223)).alloc (.cells #[sp,o,y,c,sh,.int .i64 0,.int .i64 0,.int .i64 0,.nilIface,.bool true,.bool false,some l.heap.size,.int .i64 0] 178)) l.heap.size #[.slice none 0 0,.int .i64 1] 223:=zaa.alloc (heap_alloc_new _ _) _;have r2:zaa ((l.alloc (.cells #[.slice none 0 0,.int .i64 1] 223)).alloc (.cells #[sp,o,y,c,sh,.int .i64 0,.int .i64 0,.int .i64 0,.nilIface,.bool true,.bool false,some l.heap.size,.int .i64 0] 178)) (l.heap.size+1) #[sp,o,y,c,sh,.int .i64 0,.int .i64 0,.int .i64 0,.nilIface,.bool true,.bool false,some l.heap.size,.int .i64 0] 178:=by have h:=heap_alloc_new (l.alloc (.cells #[.slice none 0 0,.int .i64 1] 223)) (.cells #[sp,o,y,c,sh,.int .i64 0,.int .i64 0,.int .i64 0,.nilIface,.bool true,.bool false,some l.heap.size,.int .i64 0] 178);rw[Z]at h;exact h
 have V:Below w.heap.size w ((l.alloc (.cells #[.slice none 0 0,.int .i64 1] 223)).alloc (.cells #[sp,o,y,c,sh,.int .i64 0,.int .i64 0,.int .i64 0,.nilIface,.bool true,.bool false,some l.heap.size,.int .i64 0] 178)).drew:=((n.alloc n.size (.cells #[.slice none 0 0,.int .i64 1] 223)).alloc (by rw[Z];have:=n.size;omega) (.cells #[sp,o,y,c,sh,.int .i64 0,.int .i64 0,.int .i64 0,.nilIface,.bool true,.bool false,some l.heap.size,.int .i64 0] 178)).drew;refine⟨V,?_⟩;try rw[if_neg hs]
 exact⟨_,rfl,I.out w _ (l.heap.size+1) l.heap.size V n.size (by have:=n.size;omega) (by omega) r2.drew r1.drew⟩
end

section

structure Wd where
 m:Mem
 l:List (Option Kl)
 tr:List Ev
 lg:List Acc
def Ch.op (x:Ch):Op3:=⟨x.ok,x.oa,x.on⟩
def zcj (c:Int):Ev:=⟨0,c,0,0,0,0,0,0⟩
def zdw (c:Int):Ev:=⟨1,c,0,0,0,0,0,0⟩
def Mem.put (m:Mem) (a x:Int):Mem:=⟨m.ws.set a.toNat x,m.st,m.la⟩
def zde (s:Sh):Wd:=⟨zgj (zb6 s.p s.c s.m).toNat,List.replicate s.c.toNat none, [], []⟩
def Wd.kl (d:Wd) (c:Int):Option Kl:=if 0<=c then d.l.getD c.toNat none else none
def Wd.stat (d:Wd) (c:Int):Int:=zdc (d.m.get c)
def Wd.begin (s:Sh) (d:Wd) (x:Ch):Wd × Int:=
 if d.stat x.client=0 then (⟨d.m.put x.client (za8 1 0),d.l.set x.client.toNat (some (zht x.client (Fl.zdr x.bias s.p))),d.tr ++ [zcj x.client],d.lg⟩,0) else (d,5)
def Wd.step (s:Sh) (d:Wd) (c:Int) (k:Kl):Wd × Int:=
 (⟨(k.step s d.m).2.1,d.l.set c.toNat (some (k.step s d.m).1),d.tr ++ (k.step s d.m).2.2.1,if d.m.st < (k.step s d.m).2.1.st then d.lg ++ [(k.step s d.m).2.1.la] else d.lg⟩,(k.step s d.m).2.2.2)
def Wd.ask (s:Sh) (d:Wd) (x:Ch) (k:Kl):Wd × Int:=
 (⟨d.m,d.l.set x.client.toNat (some (k.invoke s x.op).1),d.tr ++ (k.invoke s x.op).2.1,d.lg⟩,(k.invoke s x.op).2.2)
def Wd.kill (d:Wd) (c:Int):Wd × Int:=(⟨d.m.put c (za8 2 0),d.l.set c.toNat none,d.tr ++ [zdw c],d.lg⟩,0)
def Ch.bad (s:Sh) (x:Ch):Prop:=x.kind < 1\/4 < x.kind\/x.client < 0\/s.c<=x.client
instance (s:Sh) (x:Ch):Decidable (x.bad s):=by unfold Ch.bad;infer_instance
def Wd.act (s:Sh) (d:Wd) (x:Ch):Wd × Int:=
 if x.bad s then (d,1)
 else if x.kind=1 then d.begin s x
 else match d.kl x.client with
  | none=> (d,2)
  | some k=> if x.kind=3 then d.step s x.client k else if x.kind=2 then d.ask s x k else d.kill x.client
structure wdOk (s:Sh) (d:Wd) (n:Nat):Prop where
 fi:Fits s d.m
 fit:d.m.fit
 len:d.l.length=s.c.toNat
 kl:∀ c k,d.kl c=some k->klOk s k/\k.c=c/\0<=c/\c < s.c
 st:0<=d.m.st/\d.m.st<=n
 tr:d.tr.length<=3 * n
 lg:d.lg.length=d.m.st
theorem Wd.zfs{d:Wd}{c:Int}{k:Kl}(h:d.kl c=some k):0<=c/\c.toNat<d.l.length:=by
 unfold Wd.kl at h;split at h
 ·rename_i f;by_cases hc:c.toNat<d.l.length
  ·exact⟨f,hc⟩
  rw[List.getD_eq_getElem?_getD,List.getElem?_eq_none (by omega)]at h;simp at h
 cases h
theorem zme{f:Type}(l:List (Option f))(i j:Nat)(v:Option f)(hi:i<l.length):(l.set i v).getD j none=if i=j then v else l.getD j none:=by
 rw[List.getD_eq_getElem?_getD,List.getD_eq_getElem?_getD,List.getElem?_set];by_cases h:i=j
 ·subst h;simp[hi]
 simp[h]
theorem Wd.zdk(d:Wd){x:Int}(i:0<=x)(hi:x.toNat<d.l.length)(v:Option Kl)(m:Mem)(tr:List Ev)(lg:List Acc)(c:Int):(⟨m,d.l.set x.toNat v,tr,lg⟩:Wd).kl c=if c=x then v else d.kl c:=by
 unfold Wd.kl;dsimp only;by_cases f:0<=c
 ·rw[if_pos f,if_pos f,zme _ _ _ _ hi];by_cases h:c=x
  ·rw[if_pos (by omega),if_pos h]
  rw[if_neg (by omega),if_neg h]
 rw[if_neg f,if_neg f,if_neg (by omega)]
theorem Mem.z19{m:Mem}(h:m.fit)(a x:Int)(f:0<=x/\x<18446744073709551616):(m.put a x).fit:=ztw h f
theorem Kl.z0d(k:Kl)(j:Jb):(k.tells j).length<=3:=by
 unfold Kl.tells;rw[List.length_append];have f:(if j.gave=true/\k.told=false then [zbw k.c k.op.a] else []).length<=1:=by split<;>simp
 have i:(if j.done=true then(match j.took with|some b=>[zb5 k.c b.at' b.len]|none=>[])++[zaf k.c k.op (zb1 j.took) j.err] else []).length<=2:=by
  split
  ·rw[List.length_append];have:(match j.took with|some b=>[zb5 k.c b.at' b.len]|none=>[]).length<=1:=by cases j.took<;>simp
   simp;omega
  simp
 exact Nat.add_le_add f i
theorem Kl.zw4(s:Sh)(k:Kl)(m:Mem):(k.step s m).2.2.1.length<=3:=by
 unfold Kl.step;split
 ·simp
 exact Kl.z0d _ _
theorem Kl.zo3(s:Sh)(k:Kl)(o:Op3):(k.invoke s o).2.1.length<=2:=by
 unfold Kl.invoke;split
 ·simp
 split
 ·simp
 split<;>simp
theorem zl9{s:Sh}(h:mayB s.p s.c s.m=true):wdOk s (zde s) 0:=by
 have i:0<=zb6 s.p s.c s.m:=(z6x _ _ _).1;refine⟨⟨h,?_⟩,zoj _,by simp[zde],fun c k f=>?_,⟨Int.le_refl _,Int.le_refl _⟩,by simp[zde],rfl⟩
 ·show (((List.replicate _ (0:Int)).length:Nat):Int)=_;rw[List.length_replicate];omega
 unfold Wd.kl zde at f;dsimp only at f;rw[List.getD_eq_getElem?_getD,List.getElem?_replicate]at f;split at f
 ·split at f<;>simp at f
 cases f
theorem zkh{s:Sh}{k:Kl}{m:Mem}(h:klOk s k)(l:Fits s m)(f:m.fit):(k.job=none/\k.step s m=(k,m, [],2))\/(∃ j,k.job=some j/\Acts k.c m (k.step s m).2.1/\klOk s (k.step s m).1/\(k.step s m).2.2.2=0):=by
 rcases hj:k.job with _|j
 ·exact .inl ⟨rfl,by unfold Kl.step;rw[hj]⟩
 have i:=zsh h hj l f;exact .inr ⟨j,rfl,i.1,i.2,by unfold Kl.step;rw[hj]⟩
theorem zeo{s:Sh}{d:Wd}{n:Nat}(h:wdOk s d n)(x:Ch):wdOk s (d.act s x).1 (n+1):=by
 have M:=h.fi.may;have hb:=h.fi.bd;have t:=h.st;have O:=h.tr;have y:=h.lg;have C:wdOk s d (n+1):=⟨h.fi,h.fit,h.len,h.kl,⟨t.1,by omega⟩,by omega,y⟩;unfold Wd.act;split
 ·exact C
 rename_i z;unfold Ch.bad at z;have hc:0<=x.client/\x.client<s.c:=by omega
 have hi:x.client.toNat<d.l.length:=by rw[h.len];omega
 have i:∀ (v:Option Kl),(∀ k,v=some k->klOk s k/\k.c=x.client)->∀ (m:Mem) tr lg c k,(⟨m,d.l.set x.client.toNat v,tr,lg⟩:Wd).kl c=some k->klOk s k/\k.c=c/\0<=c/\c<s.c:=fun v H m tr lg c k o=>by
  rw[d.zdk hc.1 hi]at o;split at o
  ·rename_i e;subst e;exact⟨(H k o).1,(H k o).2,hc⟩
  exact h.kl c k o
 split
 ·unfold Wd.begin;split
  ·refine⟨h.fi.zh1 (by simp[Mem.put]),Mem.z19 h.fit _ _ (zdz _ _),by simpa using h.len,?_,⟨t.1,by show d.m.st<=_;omega⟩,by simp;omega,y⟩;exact i _ (fun k o=>by injection o with o;subst o;exact⟨z6w hc (Fl.z2u _ (by omega)),rfl⟩) _ _ _
  exact C
 split
 ·exact C
 rename_i k o;have r:=h.kl _ _ o;split
 ·have L:=Kl.zw4 s k d.m;have E:=(z6l s k d.m).1;unfold Wd.step;rcases zkh r.1 h.fi h.fit with⟨J,e⟩|⟨j,J,D,G,R⟩
  ·rw[e];dsimp only;rw[if_neg (by omega)];exact⟨h.fi,h.fit,by simpa using h.len,i _ (fun I f=>by injection f with f;subst f;exact⟨r.1,r.2.1⟩) _ _ _,⟨t.1,by show d.m.st<=_;omega⟩,by simp;omega,y⟩
  have N:=D.st;rw[if_pos (by omega)];refine⟨D.fits h.fi,D.fit h.fit,by simpa using h.len,i _ (fun I f=>by injection f with f;subst f;exact⟨G,E.trans r.2.1⟩) _ _ _,⟨by dsimp only;omega,by dsimp only;omega⟩,by simp;omega,by simp;omega⟩
 split
 ·have L:=Kl.zo3 s k x.op;unfold Wd.ask;exact⟨h.fi,h.fit,by simpa using h.len,i _ (fun I f=>by injection f with f;subst f;exact⟨zwi x.op M r.1,(yaa s k x.op).1.trans r.2.1⟩) _ _ _,⟨t.1,by dsimp only;omega⟩,by simp;omega,y⟩
 unfold Wd.kill;exact⟨h.fi.zh1 (by simp[Mem.put]),Mem.z19 h.fit _ _ (zdz _ _),by simpa using h.len,i _ (fun k o=>by cases o) _ _ _,⟨t.1,by show d.m.st<=_;omega⟩,by simp;omega,y⟩
structure Pt where
 was:Bool
 lives:Bool
 asks:Bool
 k:Int
 a:Int
 n:Int
 took:Bool
 gave:Bool
 at':Int
 ab:Bool
 deriving DecidableEq
def Pt.zero:Pt:=⟨false,false,false,0,0,0,false,false,0,false⟩
def zf0 (p:Pt) (e:Ev):Int:=
 if e.k=0 then (if p.was=true then 1 else 0)
 else if e.k=1 then (if p.lives=false then 1 else if p.asks=true/\p.took=true then 5 else 0)
 else if p.lives=false\/p.asks=true\/e.ok < 1\/4 < e.ok then 1 else 0
def zkj (p:Pt) (e:Ev):Pt:=
 if zf0 p e≠0 then p
 else if e.k=0 then { p with was:=true,lives:=true }
 else if e.k=1 then { p with lives:=false,asks:=false }
 else ⟨true,true,true,e.ok,e.oa,e.on,false,false,0,false⟩
def mayT (p:Pt):Bool:=decide (p.k=1) || (decide (p.k=3) && p.gave)
def z8g (W:Int) (l:List Bk) (p:Pt) (e:Ev):Int:=
 if mayT p=false\/p.took=true\/lenB p.n=false\/lenV p.n≠e.n then 5 else if zwf W l e.at' e.n=true then 0 else 2
def mayG (p:Pt):Bool:=decide (p.k=2) || decide (p.k=3)
def z8m (l:List Bk) (p:Pt) (e:Ev):Int:=
 if mayG p=false\/p.gave=true\/e.at'≠p.a then 5 else if zd6 e.at' l=true then 0 else 3
def zzo (p:Pt) (at':Int):Bool:=if p.k=1\/p.k=3 then p.took && (at'==p.at') else if p.k=2 then p.gave && (at'==0) else at'==0
def zie (p:Pt):Bool:=if p.k=1 then !lenB p.n else if p.k=2 then p.ab else if p.k=3 then p.ab || !lenB p.n else true
def zd9 (p:Pt) (e:Ev):Bool:=
 if e.er=0 then zzo p e.at' else if p.took=true\/p.gave=true\/e.at'≠0 then false
 else if e.er=1 then zie p else if e.er=3 then p.k==1 || p.k==3 else if e.er=4\/e.er=5 then p.k==4 else false
structure Wy where
 c:Int
 l:List Bk
 ps:List Pt
def whyJ (W:Int) (l:List Bk) (ps:List Pt) (e:Ev):Wy:=
 if e.c < 0\/(ps.length:Int)<=e.c\/e.k < 0\/5 < e.k then ⟨1,l,ps⟩
 else if e.k < 3 then ⟨zf0 (ps.getD e.c.toNat Pt.zero) e,l,ps.set e.c.toNat (zkj (ps.getD e.c.toNat Pt.zero) e)⟩
 else if (ps.getD e.c.toNat Pt.zero).lives=false\/(ps.getD e.c.toNat Pt.zero).asks=false then ⟨1,l,ps⟩
 else if e.k=3 then
  (if z8g W l (ps.getD e.c.toNat Pt.zero) e=0 then ⟨0,putB l e.at' e.n,ps.set e.c.toNat { ps.getD e.c.toNat Pt.zero with took:=true,at':=e.at' }⟩ else ⟨z8g W l (ps.getD e.c.toNat Pt.zero) e,l,ps⟩)
 else if e.k=4 then
  (if z8m l (ps.getD e.c.toNat Pt.zero) e=0 then ⟨0,zse l e.at',ps.set e.c.toNat { ps.getD e.c.toNat Pt.zero with gave:=true }⟩ else ⟨z8m l (ps.getD e.c.toNat Pt.zero) e,l,ps⟩)
 else if zd9 (ps.getD e.c.toNat Pt.zero) e=true then ⟨0,l,ps.set e.c.toNat { ps.getD e.c.toNat Pt.zero with asks:=false }⟩ else ⟨4,l,ps⟩
def abP (l:List Bk) (p:Pt):Pt:=if zd6 p.a l=false/\p.asks=true then { p with ab:=true } else p
structure Jd where
 W:Int
 l:List Bk
 ps:List Pt
 m:Int
 at':Int
 why:Int
def z4x (j:Jd) (e:Ev):Bool:=decide (j.why=0) && decide ((whyJ j.W j.l j.ps e).c=0)
def zdo (j:Jd) (e:Ev):Jd:=
 if j.why≠0 then j
 else if (whyJ j.W j.l j.ps e).c≠0 then { j with l:=(whyJ j.W j.l j.ps e).l,ps:=(whyJ j.W j.l j.ps e).ps,at':=j.m,why:=(whyJ j.W j.l j.ps e).c }
 else { j with l:=(whyJ j.W j.l j.ps e).l,ps:=(whyJ j.W j.l j.ps e).ps.map (abP (whyJ j.W j.l j.ps e).l),m:=j.m + 1 }
def newJ (p c m:Int):Jd:=if mayB p c m=true then ⟨p * 64, [],List.replicate c.toNat Pt.zero,0, -1,0⟩ else ⟨0, [], [],0, -1,0⟩
def runJ (j:Jd) (es:List Ev):Jd:=es.foldl zdo j
theorem yh5(j:Jd)(a b:List Ev):runJ j (a++b)=runJ (runJ j a) b:=by simp[runJ]
theorem yhy(j:Jd)(e:Ev)(b:List Ev):runJ j (e::b)=runJ (zdo j e) b:=rfl
theorem yjn(j:Jd)(e:Ev)(b:List Ev):runJ j (b++[e])=zdo (runJ j b) e:=by simp[runJ]
theorem yit{j:Jd}(h:j.why≠0)(e:Ev):zdo j e=j:=by unfold zdo;rw[if_pos h]
theorem yir{j:Jd}(h:j.why≠0)(es:List Ev):runJ j es=j:=by
 induction es with
 |nil=>rfl
 |cons e es f=>rw[yhy,yit h,f]
theorem zsk(j:Jd)(e:Ev):z4x j e=true↔j.why=0/\(whyJ j.W j.l j.ps e).c=0:=by simp[z4x]
theorem z9p{j:Jd}{e:Ev}(h:z4x j e=true):zdo j e= {j with l:=(whyJ j.W j.l j.ps e).l,ps:=(whyJ j.W j.l j.ps e).ps.map (abP (whyJ j.W j.l j.ps e).l),m:=j.m+1}:=by
 obtain⟨f,i⟩:=(zsk j e).1 h;unfold zdo;rw[if_neg (by omega),if_neg (by omega)]
theorem yan(l:List Ch):∀ (j:Nat) (h:j<l.length) (k:Nat),k<6->(l.flatMap Ch.cells)[j*6+k]?=(l[j]).cells[k]?:=by
 induction l with
 |nil=>intro j h;simp at h
 |cons a l n=>
  intro j h k i
  have f:a.cells.length=6:=rfl
  rw[List.flatMap_cons]
  cases j with
  |zero=>rw[Nat.zero_mul,Nat.zero_add,List.getElem?_append_left (by omega)];rfl
  |succ j=>
   rw[List.getElem?_append_right (by omega),f,show (j+1)*6+k-6=j*6+k by omega]
   exact n j (by simpa using h) k i
def Told (d:Wd) (c:Int):Prop:=∃ l e,d.tr=l ++ [e]/\e.k=5/\e.c=c
def Due (d:Wd) (c i:Int):Prop:=∃ k,d.kl c=some k/\((k.job≠none/\k.steps=i)\/(k.job=none/\Told d c))
def zjx (c:Int):Ch:=⟨3,c,0,0,0,0⟩
def Wd.goS (s:Sh) (c:Int) (d:Wd):Wd:=match d.kl c with
 | some k=> if k.job.isSome=true then (d.act s (zjx c)).1 else d
 | none=> d
def Wd.goN (s:Sh) (c:Int):Nat->Wd->Wd
 | 0,d=> d
 | n + 1,d=> (Wd.goN s c n d).goS s c
theorem z5q{s:Sh}{d:Wd}{c:Int}{k:Kl}(f:d.kl c=some k)(hc:0<=c/\c<s.c):d.act s (zjx c)=d.step s c k:=by
 unfold Wd.act;rw[if_neg (by unfold Ch.bad zjx;dsimp only;omega),if_neg (show ¬ (zjx c).kind=1 from (show ¬ (3:Int)=1 by decide))];have e:d.kl (zjx c).client=some k:=f;rw[e];exact if_pos rfl
theorem z6c{s:Sh}{d:Wd}{n:Nat}{c:Int}{k:Kl}{j:Jb}(o:wdOk s d n)(i:d.kl c=some k)(r:k.job=some j):
  (d.act s (zjx c)).2=0/\Due (d.act s (zjx c)).1 c (k.steps+1):=by
 obtain⟨y,f,hc⟩:=o.kl _ _ i;rw[z5q i hc];have hi:c.toNat<d.l.length:=by rw[o.len];omega
 have e:k.step s d.m=(k.after (j.step s k.c d.m).1,(j.step s k.c d.m).2,k.tells (j.step s k.c d.m).1,0):=by unfold Kl.step;rw[r]
 unfold Wd.step;rw[e];dsimp only;refine⟨rfl,k.after (j.step s k.c d.m).1,?_,?_⟩
 ·rw[d.zdk hc.1 hi,if_pos rfl]
 unfold Kl.after;dsimp only;by_cases hd:(j.step s k.c d.m).1.done=true
 ·rw[if_pos hd];refine .inr ⟨rfl,?_⟩
  obtain⟨l,t⟩:∃ l,d.tr++k.tells (j.step s k.c d.m).1=l++[zaf k.c k.op (zb1 (j.step s k.c d.m).1.took) (j.step s k.c d.m).1.err]:=
   ⟨_,by unfold Kl.tells;rw[if_pos hd,<- List.append_assoc,<- List.append_assoc]⟩
  exact⟨l,_,t,rfl,f⟩
 rw[if_neg hd];exact .inl ⟨by simp,rfl⟩
theorem ya0{s:Sh}{d:Wd}{n:Nat}{c i:Int}(o:wdOk s d n)(h:Due d c i)(hi:110*s.p+4*s.m+60<=i):∃ k,d.kl c=some k/\k.job=none/\Told d c:=by
 obtain⟨k,l,f|f⟩:=h
 ·rcases hj:k.job with _|j
  ·exact absurd hj f.1
  have:=z8x (o.kl _ _ l).1 (by have:=o.fi.bd;omega) hj;omega
 exact⟨k,l,f⟩
theorem zw5{s:Sh}{d:Wd}{c:Int}{k:Kl}(i:d.kl c=some k)(f:k.job=none):d.goS s c=d:=by
 unfold Wd.goS;rw[i];dsimp only;rw[f,if_neg (by simp)]
theorem z5n{s:Sh}{d:Wd}{c:Int}{k:Kl}(i:d.kl c=some k)(f:k.job≠none):d.goS s c=(d.act s (zjx c)).1:=by
 unfold Wd.goS;rw[i];dsimp only;rw[if_pos (by rcases h:k.job with _|j;exact absurd h f;rfl)]
theorem ye0{s:Sh}{d:Wd}{n:Nat}{c:Int}(f:wdOk s d n):wdOk s (d.goS s c) (n+1):=by
 have h:=zeo f (zjx c);have i:wdOk s d (n+1):=⟨f.fi,f.fit,f.len,f.kl,⟨f.st.1,by have:=f.st.2;omega⟩,by have:=f.tr;omega,f.lg⟩;unfold Wd.goS;split
 ·split
  ·exact h
  exact i
 exact i
theorem zz6{s:Sh}{d:Wd}{n:Nat}{c:Int}(f:wdOk s d n)(i:Nat):wdOk s (d.goN s c i) (n+i):=by
 induction i with
 |zero=>exact f
 |succ i j=>exact ye0 j
theorem yfl{s:Sh}{d:Wd}{c:Int}{i:Nat}{k:Kl}(j:(d.goN s c i).kl c=some k)(f:k.job=none)(m:Nat):d.goN s c (i+m)=d.goN s c i:=by
 induction m with
 |zero=>rfl;|succ m l=>show (d.goN s c (i+m)).goS s c=_;rw[l,zw5 j f]
theorem yav{s:Sh}{d:Wd}{n:Nat}{c a:Int}(r:wdOk s d n)(h:Due d c a)(i:Nat):Due (d.goN s c i) c (a+i):=by
 induction i with
 |zero=>show Due d c (a+((0:Nat):Int));rw[show a+((0:Nat):Int)=a by omega];exact h
 |succ i t=>
  obtain⟨k,l,f|f⟩:=t
  ·have e:d.goN s c (i+1)=((d.goN s c i).act s (zjx c)).1:=z5n l f.1;rcases hj:k.job with _|j
   ·exact absurd hj f.1
   rw[e];have o:=(z6c (zz6 r i) l hj).2;rw[f.2]at o;rw[show a+((i+1:Nat):Int)=a+i+1 by omega];exact o
  have e:d.goN s c (i+1)=d.goN s c i:=zw5 l f.1;rw[e];exact⟨k,l,.inr f⟩
theorem yct{s:Sh}{d:Wd}{n:Nat}{x:Ch}(t:wdOk s d n)(y:x.kind=2)(h:(d.act s x).2=0):0<=x.client/\x.client<s.c/\Due (d.act s x).1 x.client 0:=by
 unfold Wd.act at h ⊢;by_cases hb:x.bad s
 ·rw[if_pos hb]at h;exact absurd h (show (1:Int)≠0 by decide)
 rw[if_neg hb]at h ⊢;unfold Ch.bad at hb;have hc:0<=x.client/\x.client<s.c:=by omega
 refine⟨hc.1,hc.2,?_⟩;rw[if_neg (by omega)]at h ⊢;cases hk:d.kl x.client with
 |none=>rw[hk]at h;exact absurd h (show (2:Int)≠0 by decide);|some k=>
  rw[hk]at h;dsimp only at h ⊢;rw[if_neg (by omega),if_pos y]at h ⊢;have hi:x.client.toNat<d.l.length:=by rw[t.len];omega
  have r:=(t.kl _ _ hk).2.1;unfold Wd.ask at h ⊢;dsimp only at h ⊢;refine⟨(k.invoke s x.op).1,by rw[d.zdk hc.1 hi,if_pos rfl],?_⟩;unfold Kl.invoke at h ⊢;split at h
  ·exact absurd h (show (4:Int)≠0 by decide)
  rename_i f;split at h
  ·exact absurd h (show (1:Int)≠0 by decide)
  rename_i o;rw[if_neg f,if_neg o];have i:k.job=none:=by
   unfold Kl.rests at f;rcases hj:k.job with _|j
   ·rfl
   rw[hj]at f;simp at f
  split
  ·refine .inr ⟨i,?_⟩;exact⟨d.tr++[zbh k.c x.op],zaf k.c x.op 0 (zjw s k.c x.op.k x.op.a x.op.n),by simp,rfl,r⟩
  exact .inl ⟨by simp,rfl⟩
def z5k (s:Sh):Nat:=(110 * s.p + 4 * s.m + 60).toNat
def askW (s:Sh) (d:Wd) (c:Int) (o:Op3):Wd:=(d.act s ⟨2,c,o.k,o.a,o.n,0⟩).1.goN s c (z5k s)
def ygv (d:Wd):Int:=match d.tr.getLast? with
 | some e=> e.er
 | none=> 0
theorem yfn{s:Sh}{d:Wd}{n:Nat}{c:Int}{o:Op3}(f:wdOk s d n)(h:(d.act s ⟨2,c,o.k,o.a,o.n,0⟩).2=0):∃ k,(askW s d c o).kl c=some k/\k.job=none/\Told (askW s d c o) c:=by
 have hb:=f.fi.bd;have i:=yct f (x:=⟨2,c,o.k,o.a,o.n,0⟩) rfl h;have j:=yav (zeo f _) i.2.2 (z5k s);exact ya0 (zz6 (zeo f _) _) j (by unfold z5k;omega)
theorem yhe{s:Sh}{d:Wd}{n:Nat}{c:Int}{o:Op3}(f:wdOk s d n):wdOk s (askW s d c o) (n+1+z5k s):=zz6 (zeo f _) _
end

section

open Go.RowKit

attribute [local go_sem ↓] Go.wp_at_zero Go.wp_at_succ

theorem zyp{F:Nat->Prop}{w:World}{q:Nat}{s:Sh}{k:Kl}(h:KlO F w q s k):Calls Tryz.prog 32 #[some q] w fun e w'=>e= .returned (.bool k.rests)/\w'=w:=by
 have i:=hd' h.rests;clear h;have l:∀ W:World,(binOp .neq 61 (.pointer (some ⟨q,0,.none⟩)) (.pointer none)).run Tryz.prog W= .ok (.bool true) W:=fun W=>by kernel_rfl
 generalize k.rests=r at *;go_in;go_wp2_with (go_at_call 83;(with_reducible refine i.out.mono ?_);rintro r n ⟨rfl,j⟩;obtain rfl:=j.symm);go_returns;exact⟨rfl,rfl⟩
structure CW (B:Nat) (F:Nat->Prop) (W:World) (q p b:Nat) (s:Sh) (k:Kl) (m:Mem):Prop where
 kl:KlO F W q s k
 wd:zaq W p b m
 fp:¬ F p
 fb:¬ F b
 lo:∀ i,F i->B<=i
 lp:B<=p
 lb:B<=b
 ok:klOk s k
 fi:Fits s m
section

variable {B:Nat} {F:Nat->Prop} {W W':World} {q p b:Nat} {s:Sh} {k:Kl} {m:Mem}

theorem CW.below(h:CW B F W q p b s k m)(hb:Below W.heap.size W W'):CW B F W' q p b s k m:=⟨h.kl.below hb,h.wd.below hb,h.fp,h.fb,h.lo,h.lp,h.lb,h.ok,h.fi⟩
theorem CW.only{G:Nat->Prop}(h:CW B F W q p b s k m)(j:Only G W W')(f:∀ i,G i->¬ F i/\i≠p/\i≠b):CW B F W' q p b s k m:=
 ⟨h.kl.only j (fun i hi l=>(f i l).1 hi),h.wd.only j (fun e=>(f p e).2.1 rfl) (fun e=>(f b e).2.2 rfl),h.fp,h.fb,h.lo,h.lp,h.lb,h.ok,h.fi⟩
theorem zif{p:Nat}(h:¬ F p)(f:p<W.heap.size):¬ grow F W W' p:=fun e=>by
 rcases e with e|e
 ·exact h e
 ·omega
structure z2r (B:Nat) (F:Nat->Prop) (W W':World) (q p b:Nat) (s:Sh) (k:Kl) (m:Mem) (r:Ending):Prop where
 ret:∃ v,r= .returned (.tuple #[v,.int .i64 (k.step s m).2.2.2])/\W'.ownsRow W.heap.size 66 8 v (k.step s m).2.2.1.length ((k.step s m).2.2.1.flatMap fun e=> e.cells.toList)
 cw:CW B (grow F W W') W' q p b s (k.step s m).1 (k.step s m).2.1
 only:Only (fun i=> F i\/i=p\/i=b) W W'
 below:Below B W W'
theorem ybc(h:CW B F W q p b s k m)(o:B<=W.heap.size)(hs:m.st<1000000000):
  Calls Tryz.prog 110 #[some q,some p] W fun r w'=>z2r B F W w' q p b s k m r:=by
 have y:=h.fi.may;have hb:=h.fi.bd;have key:∀ r w',ztp F q p b W w' r s k m->klOk s (k.step s m).1->Fits s (k.step s m).2.1->z2r B F W w' q p b s k m r:=fun r w' hS l t=>by
  refine⟨hS.ret,⟨hS.kl,hS.wds,zif h.fp h.wd.ltp,zif h.fb h.wd.ltb,fun i hi=>?_,h.lp,h.lb,l,t⟩,hS.only,hS.only.below o (fun i hi=>?_)⟩
  ·rcases hi with hi|hi
   ·exact h.lo i hi
   omega
  rcases hi with hi|rfl|rfl
  ·exact h.lo i hi
  ·exact h.lp
  exact h.lb
 rcases hj:k.job with _|j
 ·refine(zuq h.kl h.wd hj).mono fun r w' hS=>key r w' hS ?_ ?_
  ·have e:k.step s m=(k,m, [],2):=by unfold Kl.step;rw[hj]
   rw[e];exact h.ok
  have e:k.step s m=(k,m, [],2):=by unfold Kl.step;rw[hj]
  rw[e];exact h.fi
 have l:=zsh h.ok hj h.fi h.wd.fit;have n:=z8x h.ok (by omega) hj;refine(zty h.kl h.wd h.fp h.fb h.fi h.wd.fit hj (h.ok.jb j hj).1 (h.ok.jb j hj).2.1 h.ok.cl ⟨h.ok.st,by omega⟩ hs).mono fun r w' hS=>key r w' hS l.2 (l.1.fits h.fi)
structure ygo (B:Nat) (F:Nat->Prop) (W W':World) (q p b:Nat) (s:Sh) (k:Kl) (m:Mem) (o:Op3) (r:Ending):Prop where
 ret:∃ v,r= .returned (.tuple #[v,.int .i64 (k.invoke s o).2.2])/\W'.ownsRow W.heap.size 66 8 v (k.invoke s o).2.1.length ((k.invoke s o).2.1.flatMap fun e=> e.cells.toList)
 cw:CW B (grow F W W') W' q p b s (k.invoke s o).1 m
 only:Only F W W'
 below:Below B W W'
theorem yfi(o:Op3)(h:CW B F W q p b s k m)(j:B<=W.heap.size):
  Calls Tryz.prog 60 #[some q,.agg #[o.k,o.a,o.n]] W fun r w'=>ygo B F W w' q p b s k m o r:=by
 refine(z3l (o:=o) h.kl).mono fun r w' hS=>?_;refine⟨hS.ret,⟨hS.kl,h.wd.only hS.only h.fp h.fb,zif h.fp h.wd.ltp,zif h.fb h.wd.ltb,fun i hi=>?_,h.lp,h.lb,zwi o h.fi.may h.ok,h.fi⟩,hS.only,hS.only.below j h.lo⟩;rcases hi with hi|hi
 ·exact h.lo i hi
 omega
end

theorem zut{w:World}{B:Nat}{v:Value}{es:List Ev}(h:w.ownsRow B 66 8 v es.length (es.flatMap fun e=>e.cells.toList)):RdE w v es:=RdS.zew h
end

end Go.Proofs.YtkbddndcegpllaaGreat

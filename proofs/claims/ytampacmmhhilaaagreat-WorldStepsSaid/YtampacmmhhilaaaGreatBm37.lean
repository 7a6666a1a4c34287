/- Texts bound together: CliY EdgeW EdgeA EdgeS CliZ SchP. -/
import Derived.Laws.Externs

import Derived.IntWalk

import Derived.WalkLawsBesides

import Derived.Deep.AppendLies

import Derived.Deep.RegionLaw

import Derived.Test.YtampacmmhhilaaaGreatBm36

import Derived.Test.YtampacmmhhilaaaGreatBm26

import Derived.Test.YtampacmmhhilaaaGreatBm1

set_option linter.all false
/- A client in memory: Invoke. -/
namespace Go.Proofs.YtampacmmhhilaaaGreat

open Go.RowKit

attribute [local go_sem ↓] Go.wp_at_zero Go.wp_at_succ

theorem jb_iface {F:Nat→Prop} {w:World} {v:Value} {s:Sh} {cl:Int} {j:Jb} (h:JbO F w v s cl j):∃ T x,v= .iface T x:=by
 cases j <;> (obtain ⟨q,e,_⟩:=h;exact ⟨_,_,e⟩)
/-- A client was asked, its events. -/
structure KlAsk (F:Nat→Prop) (q:Nat) (w w':World) (r:Ending) (s:Sh) (k:Kl) (o:Op3):Prop where
 ret:∃ v,r= .returned (.tuple #[v, .int .i64 (k.invoke s o).2.2])∧w'.ownsRow w.heap.size 50 8 v (k.invoke s o).2.1.length ((k.invoke s o).2.1.flatMap fun e=> e.cells.toList)
 kl:KlO (grow F w w') w' q s (k.invoke s o).1
 only:Only F w w'
theorem klask_no {F:Nat→Prop} {q:Nat} {s:Sh} {k:Kl} {o:Op3} {w:World} (h:KlO F w q s k) (hn:k.rests=false∨(k.rests=true∧(o.k < 1∨4 < o.k))):
  Calls Tryz.prog 70 #[.pointer (some ⟨q,0, .none⟩), .agg #[.int .i64 o.k, .int .i64 o.a, .int .i64 o.n]] w fun r w'=> KlAsk F q w w' r s k o:=by
 obtain ⟨ok,oa,on⟩:=o
 dsimp only at hn ⊢
 have hb0:=(Below.refl w.heap.size w).alloc (Nat.le_refl _) (.cells #[.int .i64 ok, .int .i64 oa, .int .i64 on] 43)
 have hH:RowAt (w.alloc (.cells #[.int .i64 ok, .int .i64 oa, .int .i64 on] 43)) w.heap.size #[.int .i64 ok, .int .i64 oa, .int .i64 on] 43:=heap_alloc_new _ _
 have hre:=(h.below hb0).rests
 have hfin:Hid (∀ W x,Below w.heap.size w W→k.invoke s ⟨ok,oa,on⟩=(k, [],x)→KlAsk F q w W (.returned (.tuple #[.slice none 0 0, .int .i64 x])) s k ⟨ok,oa,on⟩):=Lib.hid fun W x hb hr=> by
  refine ⟨⟨_,by rw [hr],?_⟩,?_,Only.of_below hb⟩
  ·rw [hr];exact evNil _ _
  ·rw [hr];exact (h.below hb).weak (fun b hb=> .inl hb) (grow_lt h.lt hb.size)
 have hnil:∀ W:World,(binOp .eql 36 (.pointer (some ⟨q,0, .none⟩)) (.pointer none)).run Tryz.prog W= .ok (.bool false) W:=fun W=> by kernel_rfl
 have hcs:(k.rests=false∧k.invoke s ⟨ok,oa,on⟩=(k, [],4))∨(k.rests=true∧ok < 1∧k.invoke s ⟨ok,oa,on⟩=(k, [],1))∨(k.rests=true∧decide (ok < 1)=false∧4 < ok∧k.invoke s ⟨ok,oa,on⟩=(k, [],1)):=by
  rcases hn with hn | ⟨hn,hk⟩
  ·exact .inl ⟨hn,by unfold Kl.invoke;rw [if_pos hn]⟩
  ·have e:k.invoke s ⟨ok,oa,on⟩=(k, [],1):=by unfold Kl.invoke;rw [if_neg (by rw [hn];decide),if_pos hk]
   by_cases h1:ok < 1
   ·exact .inr (.inl ⟨hn,h1,e⟩)
   ·exact .inr (.inr ⟨hn,decide_eq_false h1,by omega,e⟩)
 clear hn h
 rcases hcs with ⟨hr,he⟩ | ⟨hr,h1,he⟩ | ⟨hr,h1,h2,he⟩
 all_goals
  rw [hr] at hre
  replace hre:=Lib.hid hre
  replace he:=Lib.hid he
  clear hr
  go_enter Tryz.func70,Tryz.ntmps70
  go_upto_region 1 with fail
  generalize w.alloc (.cells #[.int .i64 ok, .int .i64 oa, .int .i64 on] 43)=X at *
  obtain ⟨H,hHH,hHH'⟩:∃ H,Hid (H=w.heap.size)∧H=w.heap.size:=⟨_,Lib.hid rfl,rfl⟩
  rw [← hHH'] at hH ⊢
  clear hHH'
  have lH:H < X.heap.size:=hH.lt
  have c0:X.cell? ⟨H,0, .none⟩=some (.int .i64 ok):=hH.cell 0
  go_wp2_with (first | (go_at_call 64;(with_reducible refine hre.out.mono ?_);rintro r w1 ⟨rfl,hw1⟩;obtain rfl:=hw1.symm) | fail)
  go_returns
  exact hfin.out _ _ hb0 he.out
set_option maxRecDepth 100000 in
set_option maxHeartbeats 4000000 in
theorem klask_yes {F:Nat→Prop} {q:Nat} {s:Sh} {k:Kl} {o:Op3} {w:World} (h:KlO F w q s k) (hj:k.job=none) (hk:1≤o.k∧o.k≤4):
  Calls Tryz.prog 70 #[.pointer (some ⟨q,0, .none⟩), .agg #[.int .i64 o.k, .int .i64 o.a, .int .i64 o.n]] w fun r w'=> KlAsk F q w w' r s k o:=by
 have hrs:k.rests=true:=by unfold Kl.rests;rw [hj];rfl
 have hinv:k.invoke s o=if onceB s k.c o.k o.a o.n=true then ({ k with op:=o,told:=false,steps:=0 }, [evAsked k.c o,evAnswer k.c o 0 (onceE s k.c o.k o.a o.n)],0) else ({ k with op:=o,told:=false,steps:=0,job:=some (jbNew s k.c k.first o.k o.a o.n) }, [evAsked k.c o],0):=by
  unfold Kl.invoke
  rw [if_neg (by rw [hrs];decide),if_neg (by omega)]
 have hb0:=(Below.refl w.heap.size w).alloc (Nat.le_refl _) (.cells #[.int .i64 o.k, .int .i64 o.a, .int .i64 o.n] 43)
 have hH:RowAt (w.alloc (.cells #[.int .i64 o.k, .int .i64 o.a, .int .i64 o.n] 43)) w.heap.size #[.int .i64 o.k, .int .i64 o.a, .int .i64 o.n] 43:=heap_alloc_new _ _
 have hre:=(h.below hb0).rests
 rw [hrs] at hre
 replace hre:=Lib.hid hre
 have hnil:∀ W:World,(binOp .eql 36 (.pointer (some ⟨q,0, .none⟩)) (.pointer none)).run Tryz.prog W= .ok (.bool false) W:=fun W=> by kernel_rfl
 obtain ⟨hF,hq,sp,sl,jv,G,hrow,hstk,hft,hG,_,_⟩:=h
 have hi:(!k.job.isSome)=true:=by rw [hj];rfl
 rw [hi] at hrow
 have hfr:klFrames k= []:=by unfold klFrames;rw [hj]
 rw [hfr] at hstk
 have hlt:∀ i,(i=q∨foot sp sl i)→i < w.heap.size:=fun i hi=> by rcases hi with rfl | hi;exact hF _ hq;exact hF i (hft i hi).1
 have honce:=fun W=> atOnce_any s k.c o.k o.a o.n W hk
 have hstart:=fun (W:World) (i:Bool) (jv:Value) (hr:RowAt W q (klCells s { k with op:=o,told:=false,steps:=0 } i jv (.pointer (some ⟨sp,0, .none⟩))) 127)=> klstart_any (k:= { k with op:=o,told:=false,steps:=0 }) hr hk
 -- what the two ends come to
 have hend1:=Lib.hid (fun (W:World) (v:Value) (hB:onceB s k.c o.k o.a o.n=true) (hr:RowAt W q (klCells s { k with op:=o,told:=false,steps:=0 } true .nilIface (.pointer (some ⟨sp,0, .none⟩))) 127) (hs:SK 0 W sp (.slice none 0 0) 1 []) (ho:Only F w W) (hv:W.ownsRow w.heap.size 50 8 v 2 ((evAsked k.c o).cells.toList ++ (evAnswer k.c o 0 (onceE s k.c o.k o.a o.n)).cells.toList))=> (by
  rw [if_pos hB] at hinv
  refine ⟨⟨v,by rw [hinv],?_⟩,?_,ho⟩
  ·rw [hinv];exact hv
  ·rw [hinv]
   refine ⟨grow_lt hF ho.size, .inl hq,sp, .slice none 0 0, .nilIface,fun _=> False,?_,?_,fun i hi=> ?_,fun i hi=> hi.elim,fun _=> rfl,fun x hx=> ?_⟩
   ·have e:(!k.job.isSome)=true:=hi
    show RowAt W q (klCells s _ (!k.job.isSome) _ _) _
    rw [e];exact hr
   ·have e:klFrames { k with op:=o,told:=false,steps:=0 }= []:=by unfold klFrames;rw [show ({ k with op:=o,told:=false,steps:=0 }:Kl).job=none from hj]
    rw [e];exact hs
   ·rcases hi with rfl | hi
    ·exact ⟨.inl (hft _ (.inl rfl)).1,(hft _ (.inl rfl)).2⟩
    ·cases hi
   ·have hx:k.job=some x:=hx
    rw [hj] at hx;exact absurd hx (fun e=> by cases e):KlAsk F q w W (.returned (.tuple #[v, .int .i64 0])) s k o))
 have hend2:=Lib.hid (fun (W:World) (v jv sl':Value) (H:Nat→Prop) (hB:onceB s k.c o.k o.a o.n=false) (hr:RowAt W q (klCells s { k with op:=o,told:=false,steps:=0 } false jv (.pointer (some ⟨sp,0, .none⟩))) 127) (hs:SK 0 W sp sl' 1 [⟨o.k,0, [o.a,o.n,0,0,0,0,0,0]⟩]) (hsl:∀ i,foot sp sl' i→foot sp sl i∨(w.heap.size≤i∧i < W.heap.size)) (hH:∀ i,H i→w.heap.size≤i∧i < W.heap.size) (hd:∀ i,H i→¬ foot sp sl' i) (hJ:JbO H W jv s k.c (jbNew s k.c k.first o.k o.a o.n)) (ho:Only F w W) (hv:W.ownsRow w.heap.size 50 8 v 1 (evAsked k.c o).cells.toList)=> (by
  rw [if_neg (by rw [hB];decide)] at hinv
  refine ⟨⟨v,by rw [hinv],?_⟩,?_,ho⟩
  ·rw [hinv];exact hv
  ·rw [hinv]
   refine ⟨grow_lt hF ho.size, .inl hq,sp,sl',jv,H,hr,hs,fun i hi=> ?_,fun i hi=> ⟨.inr (hH i hi),fun e=> by have:=hlt i (.inl e);have:=hH i hi;omega,hd i hi⟩,fun e=> (by cases e),fun x hx=> ?_⟩
   ·rcases hsl i hi with hh | hh
    ·exact ⟨.inl (hft i hh).1,(hft i hh).2⟩
    ·exact ⟨.inr hh,fun e=> by have:=hlt i (.inl e);omega⟩
   ·injection hx with hx
    subst hx
    exact hJ:KlAsk F q w W (.returned (.tuple #[v, .int .i64 0])) s k o))
 clear hinv hrs hi hfr hj
 have hrowX:=hrow.below hb0
 have hstkX:=hstk.below hb0
 generalize honceB:onceB s k.c o.k o.a o.n=ob at *
 generalize onceE s k.c o.k o.a o.n=oe at *
 obtain ⟨ok,oa,on⟩:=o
 obtain ⟨kc,kf,⟨ok',oa',on'⟩,kj,kt,ks⟩:=k
 dsimp only at honce hstart hend1 hend2 ⊢
 generalize jbNew s kc kf ok oa on=jn at *
 obtain ⟨sp',sc,sm⟩:=s
 dsimp only [klCells] at hrowX hstart hend1 hend2 honce
 clear hrow hstk honceB
 go_enter Tryz.func70,Tryz.ntmps70
 go_upto_region 1 with fail
 generalize w.alloc (.cells #[.int .i64 ok, .int .i64 oa, .int .i64 on] 43)=X at *
 obtain ⟨H,hHH,hHH'⟩:∃ H,Hid (H=w.heap.size)∧H=w.heap.size:=⟨_,Lib.hid rfl,rfl⟩
 rw [← hHH'] at hH ⊢
 have hHw:w.heap.size≤H:=by omega
 clear hHH'
 have lH:H < X.heap.size:=hH.lt
 have c0:X.cell? ⟨H,0, .none⟩=some (.int .i64 ok):=hH.cell 0
 have c1:X.cell? ⟨H,1, .none⟩=some (.int .i64 oa):=hH.cell 1
 have c2:X.cell? ⟨H,2, .none⟩=some (.int .i64 on):=hH.cell 2
 have hk1:decide (ok < 1)=false:=decide_eq_false (by have:1≤ok:=hk.1;omega)
 have hk2:decide (4 < ok)=false:=decide_eq_false (by have:ok≤4:=hk.2;omega)
 have lqX:q < X.heap.size:=hrowX.lt
 have fX:=rowFree hrowX
 have x5:X.cell? ⟨q,5, .none⟩=some (.int .i64 ok'):=hrowX.cell 5
 have x6:X.cell? ⟨q,6, .none⟩=some (.int .i64 oa'):=hrowX.cell 6
 have x7:X.cell? ⟨q,7, .none⟩=some (.int .i64 on'):=hrowX.cell 7
 have x9:X.cell? ⟨q,9, .none⟩=some (.bool true):=hrowX.cell 9
 have x10:X.cell? ⟨q,10, .none⟩=some (.bool kt):=hrowX.cell 10
 have x12:X.cell? ⟨q,12, .none⟩=some (.int .i64 ks):=hrowX.cell 12
 have hqH:H≠q:=fun e=> by have:=hlt q (.inl rfl);omega
 go_upto_region 8 with (first | (go_at_call 64;(with_reducible refine hre.out.mono ?_);rintro r w1 ⟨rfl,hw1⟩;obtain rfl:=hw1.symm) | fail)
 have hrow2:RowAt ((((((X.setCell ⟨q,5, .none⟩ (.int .i64 ok)).setCell ⟨q,6, .none⟩ (.int .i64 oa)).setCell ⟨q,7, .none⟩ (.int .i64 on)).setCell ⟨q,9, .none⟩ (.bool false)).setCell ⟨q,10, .none⟩ (.bool false)).setCell ⟨q,12, .none⟩ (.int .i64 0)) q #[.int .i64 sp', .int .i64 sc, .int .i64 sm, .int .i64 kc, .int .i64 kf, .int .i64 ok, .int .i64 oa, .int .i64 on,jv, .bool false, .bool false, .pointer (some ⟨sp,0, .none⟩), .int .i64 0] 127:=((((((hrowX.set 5 (.int .i64 ok)).set 6 (.int .i64 oa)).set 7 (.int .i64 on)).set 9 (.bool false)).set 10 (.bool false)).set 12 (.int .i64 0))
 have oq:Only (fun i=> i=q) X ((((((X.setCell ⟨q,5, .none⟩ (.int .i64 ok)).setCell ⟨q,6, .none⟩ (.int .i64 oa)).setCell ⟨q,7, .none⟩ (.int .i64 on)).setCell ⟨q,9, .none⟩ (.bool false)).setCell ⟨q,10, .none⟩ (.bool false)).setCell ⟨q,12, .none⟩ (.int .i64 0)):=Only.setCell (F:=fun i=> i=q) (Only.setCell (F:=fun i=> i=q) (Only.setCell (F:=fun i=> i=q) (Only.setCell (F:=fun i=> i=q) (Only.setCell (F:=fun i=> i=q) (Only.setCell (F:=fun i=> i=q) (Only.refl _ _) (.inl rfl) _) (.inl rfl) _) (.inl rfl) _) (.inl rfl) _) (.inl rfl) _) (.inl rfl) _
 have hstk2:=oq.stk hstkX (fun i hi e=> (hft i hi).2 e)
 have hH2:=hH.only oq hqH
 have on2:Only (fun i=> i=q∨foot sp sl i) w ((((((X.setCell ⟨q,5, .none⟩ (.int .i64 ok)).setCell ⟨q,6, .none⟩ (.int .i64 oa)).setCell ⟨q,7, .none⟩ (.int .i64 on)).setCell ⟨q,9, .none⟩ (.bool false)).setCell ⟨q,10, .none⟩ (.bool false)).setCell ⟨q,12, .none⟩ (.int .i64 0)):=(Only.of_below hb0).trans oq (fun i _ hi=> .inl hi)
 have hsz:=oq.size
 generalize ((((((X.setCell ⟨q,5, .none⟩ (.int .i64 ok)).setCell ⟨q,6, .none⟩ (.int .i64 oa)).setCell ⟨q,7, .none⟩ (.int .i64 on)).setCell ⟨q,9, .none⟩ (.bool false)).setCell ⟨q,10, .none⟩ (.bool false)).setCell ⟨q,12, .none⟩ (.int .i64 0))=w2 at *
 clear hrowX hstkX hH hb0 lH c0 c1 c2 hk1 hk2 lqX fX x5 x6 x7 x9 x10 x12 hre oq
 have hbX:w.heap.size≤w2.heap.size:=on2.size
 have lq2:q < w2.heap.size:=hrow2.lt
 have lH2:H < w2.heap.size:=hH2.lt
 have bA:Below w2.heap.size w2 (w2.alloc (.cells #[.int .i64 oa, .int .i64 on] 2)).drew:=((Below.refl _ _).alloc (Nat.le_refl _) _).drew
 have hA:RowAt (w2.alloc (.cells #[.int .i64 oa, .int .i64 on] 2)).drew w2.heap.size #[.int .i64 oa, .int .i64 on] 2:=RowAt.drew (heap_alloc_new _ _)
 have hpush:Calls Tryz.prog 114 #[.pointer (some ⟨sp,0, .none⟩), .int .i64 ok, .slice (some ⟨w2.heap.size,0, .none⟩) 2 2] (w2.alloc (.cells #[.int .i64 oa, .int .i64 on] 2)).drew fun e w'=> e= .returned (.bool true)∧Only (foot sp sl) (w2.alloc (.cells #[.int .i64 oa, .int .i64 on] 2)).drew w'∧∃ sl',(∀ k,sl'.ownBlock=some k→sl.ownBlock=some k∨(w2.alloc (.cells #[.int .i64 oa, .int .i64 on] 2)).drew.heap.size≤k)∧SK 0 w' sp sl' 1 [⟨ok,0, [oa,on,0,0,0,0,0,0]⟩]:=stkPush_any (w:=(w2.alloc (.cells #[.int .i64 oa, .int .i64 on] 2)).drew) (code:=ok) (ao:=some ⟨w2.heap.size,0, .none⟩) (zs:= [oa,on]) (cap:=2) (hstk2.below bA) (by simp) (by simp) (Nat.zero_le _) (by decide) (fun a ha j v hv=> by
  injection ha with ha
  subst ha
  rw [add_flat,Nat.zero_add,hA.cell j]
  rcases j with _ | _ | j
  ·exact hv
  ·exact hv
  ·simp at hv) (fun e=> by cases e)
 replace hpush:=Lib.hid hpush
 have hrow2d:=hrow2.drew
 have hH2d:=hH2.drew
 have hrowA:=hrow2.below bA
 have hHA:=hH2.below bA
 have hS:=Lib.hid (fun (Y:World) (hr:RowAt Y q #[.int .i64 sp', .int .i64 sc, .int .i64 sm, .int .i64 kc, .int .i64 kf, .int .i64 ok, .int .i64 oa, .int .i64 on,jv, .bool false, .bool false, .pointer (some ⟨sp,0, .none⟩), .int .i64 0] 127) (hb:RowAt Y H #[.int .i64 ok, .int .i64 oa, .int .i64 on] 43)=> (⟨hr.cell 11,hb.cell 0,hb.cell 1,hb.cell 2⟩:Y.cell? ⟨q,11, .none⟩=some (.pointer (some ⟨sp,0, .none⟩))∧Y.cell? ⟨H,0, .none⟩=some (.int .i64 ok)∧Y.cell? ⟨H,1, .none⟩=some (.int .i64 oa)∧Y.cell? ⟨H,2, .none⟩=some (.int .i64 on)))
 have hqf:¬ foot sp sl q:=fun e=> (hft q e).2 rfl
 have hHf:¬ foot sp sl H:=fun e=> by have:=hlt H (.inr e);omega
 go_region_held3 (fun Y=> Y.cell? ⟨q,11, .none⟩=some (.pointer (some ⟨sp,0, .none⟩))∧Y.cell? ⟨H,0, .none⟩=some (.int .i64 ok)∧Y.cell? ⟨H,1, .none⟩=some (.int .i64 oa)∧Y.cell? ⟨H,2, .none⟩=some (.int .i64 on))
  (first | exact hS.out _ hrow2d hH2d | exact hS.out _ hrowA hHA | exact hS.out _ (hrow2d.alloc _) (hH2d.alloc _) | exact hS.out _ hrow3 hH3 | fail)
  (first
   | (go_at_call 114;(with_reducible refine hpush.out.mono ?_);rintro r w3 ⟨rfl,on3,sl',hsl3,hstk3⟩;have hrow3:=hrowA.only on3 hqf;have hH3:=hHA.only on3 hHf)
   | fail)
 have on3w:Only (fun i=> i=q∨foot sp sl i) w w3:=(on2.trans (Only.of_below (F:=fun _=> False) bA) (fun _ _ hh=> hh.elim)).trans on3 (fun i _ hi=> .inr hi)
 have hsl4:∀ i,foot sp sl' i→foot sp sl i∨(w.heap.size≤i∧i < w3.heap.size):=fun i hi=> by
  rcases hi with rfl | hi
  ·exact .inl (.inl rfl)
  ·rcases hsl3 i hi with hh | hh
   ·exact .inl (.inr hh)
   ·have h1:=bA.size
    exact .inr ⟨by omega,(hstk3.rowLt i hi).2⟩
 clear hrow2 hstk2 hH2 on2 hsz hbX lq2 lH2 bA hA hpush hrow2d hH2d hrowA hHA hS on3 hsl3 hHf hqf
 go_upto_region 9 with fail
 have hbX:w.heap.size≤w3.heap.size:=on3w.size
 have lq3:q < w3.heap.size:=hrow3.lt
 have lH3:H < w3.heap.size:=hH3.lt
 have c0:w3.cell? ⟨H,0, .none⟩=some (.int .i64 ok):=hH3.cell 0
 have c1:w3.cell? ⟨H,1, .none⟩=some (.int .i64 oa):=hH3.cell 1
 have c2:w3.cell? ⟨H,2, .none⟩=some (.int .i64 on):=hH3.cell 2
 have c3:w3.cell? ⟨q,3, .none⟩=some (.int .i64 kc):=hrow3.cell 3
 refine wp_region_ext_tail 6 (by kernel_rfl) (by kernel_rfl) ?_
 dsimp only [List.take,List.drop]
 repeat (go_big_quiet_step (fail))
 refine wpQuiet_nil ?_
 rintro _ ⟨e',rfl⟩
 have hrow4:=hrow3.below e'.below
 have hstk4:=hstk3.below e'.below
 have hH4:=hH3.below e'.below
 have on4:=on3w.trans (Only.of_below (F:=fun _=> False) e'.below) (fun _ _ hh=> hh.elim)
 have hs4:=e'.below.size
 generalize e'.w=w4 at *
 change wpList _ _ _ _ _ w4
 clear hrow3 hstk3 hH3 on3w lq3 lH3 c0 c1 c2 c3
 go_upto_region 10 with fail
 have hbV:Below w4.heap.size w4 (w4.alloc (.cells (evAsked kc ⟨ok,oa,on⟩).cells 50)):=(Below.refl _ _).alloc (Nat.le_refl _) _
 have hown5:(w4.alloc (.cells (evAsked kc ⟨ok,oa,on⟩).cells 50)).ownsRow w.heap.size 50 8 (.slice (some ⟨w4.heap.size,0, .none⟩) 1 1) 1 (evAsked kc ⟨ok,oa,on⟩).cells.toList:=World.ownsRow_lit w4 (evAsked kc ⟨ok,oa,on⟩).cells 1 (by omega) (by decide) rfl
 have hrow5:=hrow4.below hbV
 have hstk5:=hstk4.below hbV
 have hH5:=hH4.below hbV
 have on5:=on4.trans (Only.of_below (F:=fun _=> False) hbV) (fun _ _ hh=> hh.elim)
 have hs5:w4.heap.size < (w4.alloc (.cells (evAsked kc ⟨ok,oa,on⟩).cells 50)).heap.size:=by rw [size_alloc];omega
 dsimp only [evAsked,Ev.cells] at hrow5 hstk5 hH5 on5 hown5 hs5
 generalize w4.alloc (.cells #[.int .i64 2, .int .i64 kc, .int .i64 ok, .int .i64 oa, .int .i64 on, .int .i64 0, .int .i64 0, .int .i64 0] 50)=w5 at *
 clear hrow4 hstk4 hH4 on4 hbV
 obtain ⟨B,hBB,hBB'⟩:∃ B,Hid (B=w4.heap.size)∧B=w4.heap.size:=⟨_,Lib.hid rfl,rfl⟩
 rw [← hBB'] at hown5 hs5 ⊢
 have hBw:w.heap.size≤B:=by omega
 have hB3:w3.heap.size≤B:=by omega
 clear hBB' hBB
 have hbX5:w.heap.size≤w5.heap.size:=on5.size
 have hsl5:∀ i,foot sp sl' i→foot sp sl i∨(w.heap.size≤i∧i < B):=fun i hi=> by
  rcases hsl4 i hi with hh | hh
  ·exact .inl hh
  ·exact .inr ⟨hh.1,by omega⟩
 have lq5:q < w5.heap.size:=hrow5.lt
 have lH5:H < w5.heap.size:=hH5.lt
 have c0:w5.cell? ⟨H,0, .none⟩=some (.int .i64 ok):=hH5.cell 0
 have c1:w5.cell? ⟨H,1, .none⟩=some (.int .i64 oa):=hH5.cell 1
 have c2:w5.cell? ⟨H,2, .none⟩=some (.int .i64 on):=hH5.cell 2
 have q0:w5.cell? ⟨q,0, .none⟩=some (.int .i64 sp'):=hrow5.cell 0
 have q1:w5.cell? ⟨q,1, .none⟩=some (.int .i64 sc):=hrow5.cell 1
 have q2:w5.cell? ⟨q,2, .none⟩=some (.int .i64 sm):=hrow5.cell 2
 have q3:w5.cell? ⟨q,3, .none⟩=some (.int .i64 kc):=hrow5.cell 3
 replace honce:=Lib.hid honce
 refine wp_region_ext (by kernel_rfl) (by kernel_rfl) ?_
 repeat (go_big_quiet_step ((first | (go_at_call 115;exact ext_of (honce.out _)) | fail)))
 refine wpQuiet_nil ?_
 rintro _ ⟨e',rfl⟩
 have hrow6:=hrow5.below e'.below
 have hstk6:=hstk5.below e'.below
 have on6:=on5.trans (Only.of_below (F:=fun _=> False) e'.below) (fun _ _ hh=> hh.elim)
 have hown6:=ownBel hown5 e'.below
 have hs6:=e'.below.size
 generalize e'.w=w6 at *
 clear hrow5 hstk5 on5 hown5 c0 c1 c2 q0 q1 q2 q3 lq5 lH5 honce hH5
 obtain ⟨i0,hi0,hz0,hz1,hz2⟩:=info_parts infoEv
 have hqf:¬ foot sp sl' q:=fun e=> by
  rcases hsl5 q e with hh | hh
  ·exact (hft q hh).2 rfl
  ·have:=hlt q (.inl rfl);omega
 have hBf:¬ foot sp sl' B:=fun e=> by
  rcases hsl5 B e with hh | hh
  ·have:=hlt B (.inr hh);omega
  ·omega
 have hqB:B≠q:=fun e=> by have:=hlt q (.inl rfl);omega
 cases ob
 case true=>
  have cans:=klanswer_any (s:=⟨sp',sc,sm⟩) (k:=⟨kc,kf,⟨ok,oa,on⟩,kj,false,0⟩) (i:=false) (jv:=jv) oe 0 hrow6 hstk6 hqf
  dsimp only [klCells,Ev.val,Ev.cells,evAnswer] at cans
  replace cans:=Lib.hid cans
  have hbX6:w.heap.size≤w6.heap.size:=on6.size
  go_wp2_with (first
   | (go_at_call 116;(with_reducible refine cans.out.mono ?_);rintro r w8 ⟨rfl,h8,hs8,on8⟩;have hown8:=ownsRow_of_blocks hown6 (fun i hi=> on8.block i (hown6.lt i hi).2 (fun e=> by (have:B=i:=by injection hi);subst this;exact e.elim hqB hBf));have hbw8:w.heap.size≤w8.heap.size:=Nat.le_trans hbX6 on8.size)
   | (refine wpList_append_rd rfl (.tmp 71) (.tmp 75) 47 rfl w.heap.size 50 i0 _ 8 64 Tryz.underlying47 hi0 hz0 hz1 hz2 rfl (by omega) _ 1 (evAsked kc ⟨ok,oa,on⟩).cells.toList rfl (ownBel hown8 ((Below.refl _ _).alloc (Nat.le_refl _) _)) _ 1 (evAnswer kc ⟨ok,oa,on⟩ 0 oe).cells.toList rfl (evRd (evAnswer kc ⟨ok,oa,on⟩ 0 oe) _) (evOne _) (by simp only [maxLen];omega) (by omega) (by simp;omega) ?_;intro v9 w9 hown9 hgrow9 hat9;have hb9:=grown_belowS ((Below.refl w.heap.size w8).alloc hbw8 (.cells (evAnswer kc ⟨ok,oa,on⟩ 0 oe).cells 50)) (ownBel hown8 ((Below.refl _ _).alloc (Nat.le_refl _) _)) (by simp;omega) hgrow9)
   | fail)
  go_returns
  have lq:=hlt q (.inl rfl)
  have on9:Only (fun i=> i=q∨foot sp sl i) w w9:=onBel (on6.trans on8 (fun i hi hh=> by
   rcases hh with hh | hh
   ·exact .inl hh
   ·rcases hsl5 i hh with e | e
    ·exact .inr e
    ·omega)) hb9
  exact hend1.out w9 v9 trivial (h8.belB hb9 lq) ((belOn hb9).stk hs8 (fun i hi e=> by
   rcases hi with rfl | hi
   ·have:=hlt _ (.inr (.inl rfl));omega
   ·cases hi)) (on9.weak (fun i hi=> by
   rcases hi with rfl | hi
   ·exact hq
   ·exact (hft i hi).1)) hown9
 case false=>
  have hst:=Lib.hid (hstart w6 false jv hrow6)
  have l6:q < w6.heap.size:=hrow6.lt
  clear hend1 hstart
  go_wp2_with (first
   | (go_at_call 117;(with_reducible refine hst.out.mono ?_);rintro r w7 ⟨jv2,rfl,hJ7,hb7⟩;obtain ⟨T2,x2,rfl⟩:=jb_iface hJ7;have hrow7:=hrow6.below hb7;have z8:w7.cell? ⟨q,8, .none⟩=some jv:=hrow7.cell 8;have zf:=rowFree hrow7;have l7:=hrow7.lt)
   | fail)
  go_returns
  have lq:=hlt q (.inl rfl)
  have hs7:=hb7.size
  have hW:(w7.setCell ⟨q,8, .none⟩ (.iface T2 x2)).heap.size=w7.heap.size:=size_set _ _ _
  have oq:Only (fun i=> i=q) w7 (w7.setCell ⟨q,8, .none⟩ (.iface T2 x2)):=Only.setCell (F:=fun i=> i=q) (Only.refl _ _) (.inl rfl) _
  refine hend2.out _ _ (.iface T2 x2) sl' (fun i=> w6.heap.size≤i∧i < w7.heap.size) trivial (hrow7.set 8 (.iface T2 x2)) (oq.stk (hstk6.below hb7) (fun i hi e=> hqf (e ▸ hi))) (fun i hi=> ?_) (fun i hi=> ⟨Nat.le_trans on6.size hi.1,by rw [hW];exact hi.2⟩) (fun i hi e=> ?_) (hJ7.only oq (fun i hi e=> by omega)) ?_ ?_
  ·rcases hsl5 i hi with hh | hh
   ·exact .inl hh
   ·exact .inr ⟨hh.1,by omega⟩
  ·rcases hsl5 i e with hh | hh
   ·have:=hlt i (.inr hh);have:=on6.size;omega
   ·omega
  ·refine ((on6.trans (Only.of_below (F:=fun _=> False) hb7) (fun _ _ hh=> hh.elim)).trans oq (fun i _ hh=> .inl hh)).weak (fun i hi=> ?_)
   rcases hi with rfl | hi
   ·exact hq
   ·exact (hft i hi).1
  ·exact ownOn (ownBel hown6 hb7) oq (fun i hi e=> by omega)
/-- What is asked of a client. -/
theorem klask_any {F:Nat→Prop} {q:Nat} {s:Sh} {k:Kl} {o:Op3} {w:World} (h:KlO F w q s k):
  Calls Tryz.prog 70 #[.pointer (some ⟨q,0, .none⟩), .agg #[.int .i64 o.k, .int .i64 o.a, .int .i64 o.n]] w fun r w'=> KlAsk F q w w' r s k o:=by
 rcases hj:k.job with _ | j
 ·have hr:k.rests=true:=by unfold Kl.rests;rw [hj];rfl
  by_cases hk:1≤o.k∧o.k≤4
  ·exact klask_yes h hj hk
  ·exact klask_no h (.inr ⟨hr,by omega⟩)
 ·have hr:k.rests=false:=by unfold Kl.rests;rw [hj];rfl
  exact klask_no h (.inl hr)
end Go.Proofs.YtampacmmhhilaaaGreat
/- The walks of package edge, of package math beneath it, and of the reference's floats. -/
namespace Go.Proofs.YtampacmmhhilaaaGreat

open Go.RowKit Fl

theorem fmt_eq (x y:Nat):FloatKind.f64.format.order x y=Ieee.double.order x y:=rfl
abbrev F64 (x:Nat):Value:= .float .f64 x
theorem run_negf (x:Nat) (w:World):(Op.unary UnOp.neg (.float .f64 x)).run Tryz.prog w= .ok (.float .f64 (x ^^^ 2 ^ 63)) w:=rfl
set_option maxHeartbeats 400000 in
theorem isNaN_any (x:Nat) (w:World):Calls Tryz.prog 189 #[F64 x] w fun e w'=> e= .returned (.bool (nan x))∧w'=w:=by
 go_enter Tryz.func189,Tryz.ntmps189
 go_wp2
 go_ret
 refine ⟨ret_bool ?_,rfl⟩
 rw [fmt_eq,bne,order_eqB,Fl.eq_self,Bool.not_not]
set_option maxHeartbeats 400000 in
theorem isInf_neg_any (x:Nat) (w:World):Calls Tryz.prog 190 #[F64 x, .int .i64 (-1)] w fun e w'=> e= .returned (.bool (decide (kindI x=1)))∧w'=w:=by
 have hn:=run_negf x
 go_enter Tryz.func190,Tryz.ntmps190
 go_wp2
 go_ret
 refine ⟨ret_bool ?_,rfl⟩
 rw [← isInf_neg,← order_gt];rfl
set_option maxHeartbeats 400000 in
theorem isInf_pos_any (x:Nat) (w:World):Calls Tryz.prog 190 #[F64 x, .int .i64 1] w fun e w'=> e= .returned (.bool (decide (kindI x=5)))∧w'=w:=by
 go_enter Tryz.func190,Tryz.ntmps190
 go_wp2
 go_ret
 refine ⟨ret_bool ?_,rfl⟩
 rw [← isInf_pos,← order_gt];rfl
theorem lt0 (x:Nat):(FloatKind.f64.format.order x 0==some .lt)=(!nan x && decide (iv x < 0)):=(order_lt x 0).trans (lt_zero x)
theorem gt0 (x:Nat):(FloatKind.f64.format.order x 0==some .gt)=(!nan x && decide (0 < iv x)):=(order_gt x 0).trans (gt_zero x)
set_option maxHeartbeats 400000 in
theorem ekind_any (x:Nat) (w:World):Calls Tryz.prog 171 #[F64 x] w fun e w'=> e= .returned (.int .i64 (kindI x))∧w'=w:=by
 have hlt:=lt0 x
 have hgt:=gt0 x
 go_enter Tryz.func171,Tryz.ntmps171
 go_wp2_with (first
  | (go_at_call 189;refine (isNaN_any _ _).mono ?_;rintro e w1 ⟨rfl,rfl⟩)
  | (go_at_call 190;(with_reducible refine (isInf_neg_any _ _).mono ?_);rintro e w1 ⟨rfl,rfl⟩)
  | (go_at_call 190;(with_reducible refine (isInf_pos_any _ _).mono ?_);rintro e w1 ⟨rfl,rfl⟩))
 all_goals go_ret
 all_goals refine ⟨ret_int ?_,rfl⟩
 all_goals clear hlt hgt
 all_goals first
  | exact (kind_zero.2 (by assumption)).symm
  | (have h:=kind_num (x:=x) (by assumption);have hI:(0:Int) < (INF:Int):=(by decide);omega)
theorem gtxy (x y:Nat):(FloatKind.f64.format.order x y==some .gt)=gtB x y:=order_gt x y
theorem eqxy (x y:Nat):(FloatKind.f64.format.order x y==some .eq)=eqB x y:=order_eqB x y
end Go.Proofs.YtampacmmhhilaaaGreat
/- Package math's makers of floats, package edge's share of one half, and what the laws of layer 1 ask first. -/
namespace Go.Proofs.YtampacmmhhilaaaGreat

open Go.RowKit Fl

end Go.Proofs.YtampacmmhhilaaaGreat
/- The walks of shares, ratios and clamps, of package edge and of the reference. -/
namespace Go.Proofs.YtampacmmhhilaaaGreat

open Go.RowKit Fl

theorem ge_one (x:Nat):(FloatKind.f64.format.order x 4607182418800017408==some .gt || FloatKind.f64.format.order x 4607182418800017408==some .eq)=(!nan x && decide ((ONE:Int)≤iv x)):=by
 have h1:=gtxy x ONE
 have h2:=eqxy x ONE
 unfold ONE at h1 h2
 rw [h1,h2]
 show (gtB x ONE || eqB x ONE)=_
 unfold gtB eqB
 rw [nan_one,iv_one]
 cases nan x
 ·simp only [Bool.not_false,Bool.true_and]
  rw [Bool.eq_iff_iff]
  simp only [Bool.or_eq_true,decide_eq_true_eq]
  omega
 ·rfl
set_option maxHeartbeats 400000 in
theorem share_any (x:Nat) (n:Int) (hn0: -9223372036854775808≤n) (hn1:n≤9223372036854775807) (w:World):Calls Tryz.prog 144 #[F64 x, .int .i64 n] w fun e w'=> e= .returned (.int .i64 (shareI x n))∧w'=w:=by
 have hlt:=lt0 x
 have hge:=ge_one x
 have hk0:=kind_zero (x:=x)
 unfold shareI
 by_cases h1:n < 1
 ·rw [if_pos (.inl h1)]
  clear hlt hge hk0
  go_enter Tryz.func144,Tryz.ntmps144
  go_wp2_with (go_at_call 171;refine (ekind_any _ _).mono ?_;rintro e w1 ⟨rfl,rfl⟩)
  go_ret
  exact ⟨rfl,rfl⟩
 ·cases h2:nan x
  ·have hk:kindI x≠0:=fun h=> by rw [hk0.1 h] at h2;cases h2
   have hkb:(kindI x==0)=false:=by simpa using hk
   rw [h2] at hlt hge
   by_cases h3:iv x < 0
   ·rw [if_pos (.inr (.inr h3))]
    rw [decide_eq_true h3] at hlt
    clear hge hk0 h3
    go_enter Tryz.func144,Tryz.ntmps144
    go_wp2_with (go_at_call 171;refine (ekind_any _ _).mono ?_;rintro e w1 ⟨rfl,rfl⟩)
    go_ret
    exact ⟨rfl,rfl⟩
   ·rw [if_neg (by simp only [Bool.false_eq_true,false_or,not_or];exact ⟨h1,h3⟩)]
    rw [decide_eq_false h3] at hlt
    by_cases h4:(ONE:Int)≤iv x
    ·rw [if_pos h4]
     rw [decide_eq_true h4] at hge
     clear hk0 h3 h4
     go_enter Tryz.func144,Tryz.ntmps144
     go_wp2_with (go_at_call 171;refine (ekind_any _ _).mono ?_;rintro e w1 ⟨rfl,rfl⟩)
     go_ret
     exact ⟨rfl,rfl⟩
    ·rw [if_neg h4]
     rw [decide_eq_false h4] at hge
     obtain ⟨r,hm0,hc0,ht⟩:=share_conv (x:=x) (n:=n) (by omega) hn1 (by omega) (by omega)
     generalize (T (prodR (rung x) (R n.natAbs 0)):Int)=t at *
     have hm:=fun w:World=> run_float_arith (P:=Tryz.prog) w .mul 44 .f64 _ _ r hm0
     have hc:=fun w:World=> run_convert_float_int (P:=Tryz.prog) w 44 3 .f64 .i64 r t (by kernel_rfl) Tryz.underlying3 hc0
     clear hk0 h3 h4 hm0 hc0
     go_enter Tryz.func144,Tryz.ntmps144
     go_wp2_with (go_at_call 171;refine (ekind_any _ _).mono ?_;rintro e w1 ⟨rfl,rfl⟩)
     all_goals go_ret
     all_goals refine ⟨ret_int ?_,rfl⟩
     all_goals omega
  ·have hk:kindI x=0:=hk0.2 h2
   have hkb:(kindI x==0)=true:=by simpa using hk
   rw [if_pos (.inr (.inl rfl))]
   clear hlt hge hk0 hk
   go_enter Tryz.func144,Tryz.ntmps144
   go_wp2_with (go_at_call 171;refine (ekind_any _ _).mono ?_;rintro e w1 ⟨rfl,rfl⟩)
   go_ret
   exact ⟨rfl,rfl⟩
end Go.Proofs.YtampacmmhhilaaaGreat
/- A client in memory: New; what it says of itself. -/
namespace Go.Proofs.YtampacmmhhilaaaGreat

open Go.RowKit

attribute [local go_sem ↓] Go.wp_at_zero Go.wp_at_succ

/-- A client was made, or none. -/
def KlBorn (w w':World) (e:Ending) (s:Sh) (c:Int) (x:Nat):Prop:=Below w.heap.size w w'∧
 if statusIx s.p s.c s.m c < 0 then e= .returned (.pointer none) else ∃ q,e= .returned (.pointer (some ⟨q,0, .none⟩))∧KlO (fun i=> w.heap.size≤i∧i < w'.heap.size) w' q s (klNew c (Fl.shareI x s.p))
set_option maxRecDepth 100000 in
set_option maxHeartbeats 4000000 in
theorem klnew_any (s:Sh) (c:Int) (x:Nat) (w:World) (hp: -9223372036854775808≤s.p∧s.p≤9223372036854775807):
  Calls Tryz.prog 110 #[.agg #[.int .i64 s.p, .int .i64 s.c, .int .i64 s.m], .int .i64 c,F64 x] w fun e w'=> KlBorn w w' e s c x:=by
 have hc1:=fun W=> planStatus_any s.p s.c s.m c W
 have hc2:=fun W=> share_any x s.p hp.1 hp.2 W
 have hc3:=fun W=> stkNew_any 1 W
 unfold KlBorn
 have hfin:=Lib.hid (fun (Y W:World) (E S:Nat) (hb:Below w.heap.size w W) (hS:w.heap.size≤S) (hE:w.heap.size≤E) (hES:E≠S) (hr:RowAt W E (klCells s (klNew c (Fl.shareI x s.p)) true .nilIface (.pointer (some ⟨S,0, .none⟩))) 127) (hs:RowAt W S #[.slice none 0 0, .int .i64 1] 216)=> (by
  refine ⟨fun i hi=> hi.2,⟨hE,hr.lt⟩,S, .slice none 0 0, .nilIface,fun _=> False,hr,⟨Nat.zero_le _,hs,World.ownsRow_nil _ _ _ _,by simp [Value.ownBlock],fun f hf=> by cases hf⟩,fun i hi=> ?_,fun i hi=> hi.elim,fun _=> rfl,fun j hj=> by cases hj⟩
  rcases hi with rfl | hi
  ·exact ⟨⟨hS,hs.lt⟩,fun e=> hES e.symm⟩
  ·exact absurd hi (fun e=> by cases e):KlO (fun i=> w.heap.size≤i∧i < W.heap.size) W E s (klNew c (Fl.shareI x s.p))))
 generalize statusIx s.p s.c s.m c=sx at *
 generalize Fl.shareI x s.p=sh at *
 obtain ⟨sp,sc,sm⟩:=s
 dsimp only [klCells,klNew,Op3.zero] at hc1 hc2 hfin ⊢
 replace hc1:=Lib.hid hc1
 replace hc2:=Lib.hid hc2
 replace hc3:=Lib.hid hc3
 have hb0:=(Below.refl w.heap.size w).alloc (Nat.le_refl _) (.cells #[.int .i64 sp, .int .i64 sc, .int .i64 sm] 23)
 have t0:RowAt (w.alloc (.cells #[.int .i64 sp, .int .i64 sc, .int .i64 sm] 23)) w.heap.size #[.int .i64 sp, .int .i64 sc, .int .i64 sm] 23:=heap_alloc_new _ _
 go_enter Tryz.func110,Tryz.ntmps110
 go_upto_region 1 with fail
 generalize w.alloc (.cells #[.int .i64 sp, .int .i64 sc, .int .i64 sm] 23)=X at *
 obtain ⟨H,hHH,hHH'⟩:∃ H,Hid (H=w.heap.size)∧H=w.heap.size:=⟨_,Lib.hid rfl,rfl⟩
 rw [← hHH'] at t0 ⊢
 have hHw:w.heap.size≤H:=by omega
 clear hHH'
 have lH:H < X.heap.size:=t0.lt
 have c0:X.cell? ⟨H,0, .none⟩=some (.int .i64 sp):=t0.cell 0
 have c1:X.cell? ⟨H,1, .none⟩=some (.int .i64 sc):=t0.cell 1
 have c2:X.cell? ⟨H,2, .none⟩=some (.int .i64 sm):=t0.cell 2
 by_cases hs:sx < 0
 ·go_wp2_with (first | (go_at_call 67;(with_reducible refine (hc1.out _).mono ?_);rintro r w1 ⟨rfl,hb1⟩) | fail)
  go_returns
  refine ⟨belowTrans hb0 hb1,?_⟩
  first | rfl | (rw [if_pos hs])
 ·have hs':decide (sx < 0)=false:=decide_eq_false hs
  go_upto_region 3 with (first | (go_at_call 67;(with_reducible refine (hc1.out _).mono ?_);rintro r w1 ⟨rfl,hb1⟩) | fail)
  have t1:=t0.below hb1
  have bw1:=belowTrans hb0 hb1
  have td:=t1.drew
  have bd:=bw1.drew
  clear lH c0 c1 c2 hb0 t0
  have lH:H < w1.drew.heap.size:=td.lt
  have hS:=Lib.hid (fun (Y:World) (hr:RowAt Y H #[.int .i64 sp, .int .i64 sc, .int .i64 sm] 23)=> (⟨hr.cell 0,hr.cell 1,hr.cell 2⟩:Y.cell? ⟨H,0, .none⟩=some (.int .i64 sp)∧Y.cell? ⟨H,1, .none⟩=some (.int .i64 sc)∧Y.cell? ⟨H,2, .none⟩=some (.int .i64 sm)))
  go_region_held3 (fun Y=> Y.cell? ⟨H,0, .none⟩=some (.int .i64 sp)∧Y.cell? ⟨H,1, .none⟩=some (.int .i64 sc)∧Y.cell? ⟨H,2, .none⟩=some (.int .i64 sm))
   (first | exact hS.out _ td | exact hS.out _ (td.alloc _) | exact hS.out _ ((td.alloc _).alloc _) | fail)
   (first
    | (go_at_call 144;(with_reducible refine (hc2.out _).mono ?_);rintro r w2 ⟨rfl,hw2⟩;obtain rfl:=hw2.symm)
    | (go_at_call 145;(with_reducible refine (hc3.out _).mono ?_);rintro r w3 ⟨rfl,hw3⟩;obtain rfl:=hw3.symm)
    | fail)
  all_goals go_wp2_with fail
  go_returns
  have e1:(w1.alloc (.cells #[.slice none 0 0, .int .i64 1] 216)).heap.size=w1.heap.size + 1:=size_alloc _ _
  have r1:RowAt ((w1.alloc (.cells #[.slice none 0 0, .int .i64 1] 216)).alloc (.cells #[.int .i64 sp, .int .i64 sc, .int .i64 sm, .int .i64 c, .int .i64 sh, .int .i64 0, .int .i64 0, .int .i64 0, .nilIface, .bool true, .bool false, .pointer (some ⟨w1.heap.size,0, .none⟩), .int .i64 0] 127)) w1.heap.size #[.slice none 0 0, .int .i64 1] 216:=RowAt.alloc (heap_alloc_new _ _) _
  have r2:RowAt ((w1.alloc (.cells #[.slice none 0 0, .int .i64 1] 216)).alloc (.cells #[.int .i64 sp, .int .i64 sc, .int .i64 sm, .int .i64 c, .int .i64 sh, .int .i64 0, .int .i64 0, .int .i64 0, .nilIface, .bool true, .bool false, .pointer (some ⟨w1.heap.size,0, .none⟩), .int .i64 0] 127)) (w1.heap.size + 1) #[.int .i64 sp, .int .i64 sc, .int .i64 sm, .int .i64 c, .int .i64 sh, .int .i64 0, .int .i64 0, .int .i64 0, .nilIface, .bool true, .bool false, .pointer (some ⟨w1.heap.size,0, .none⟩), .int .i64 0] 127:=by
   have h:=heap_alloc_new (w1.alloc (.cells #[.slice none 0 0, .int .i64 1] 216)) (.cells #[.int .i64 sp, .int .i64 sc, .int .i64 sm, .int .i64 c, .int .i64 sh, .int .i64 0, .int .i64 0, .int .i64 0, .nilIface, .bool true, .bool false, .pointer (some ⟨w1.heap.size,0, .none⟩), .int .i64 0] 127)
   rw [e1] at h
   exact h
  have b2:Below w.heap.size w ((w1.alloc (.cells #[.slice none 0 0, .int .i64 1] 216)).alloc (.cells #[.int .i64 sp, .int .i64 sc, .int .i64 sm, .int .i64 c, .int .i64 sh, .int .i64 0, .int .i64 0, .int .i64 0, .nilIface, .bool true, .bool false, .pointer (some ⟨w1.heap.size,0, .none⟩), .int .i64 0] 127)).drew:=((bw1.alloc bw1.size (.cells #[.slice none 0 0, .int .i64 1] 216)).alloc (by rw [e1];have:=bw1.size;omega) (.cells #[.int .i64 sp, .int .i64 sc, .int .i64 sm, .int .i64 c, .int .i64 sh, .int .i64 0, .int .i64 0, .int .i64 0, .nilIface, .bool true, .bool false, .pointer (some ⟨w1.heap.size,0, .none⟩), .int .i64 0] 127)).drew
  refine ⟨b2,?_⟩
  try rw [if_neg hs]
  exact ⟨_,rfl,hfin.out w _ (w1.heap.size + 1) w1.heap.size b2 bw1.size (by have:=bw1.size;omega) (by omega) r2.drew r1.drew⟩
end Go.Proofs.YtampacmmhhilaaaGreat
/- Choices of schedules: what a row of them is in memory. -/
namespace Go.Proofs.YtampacmmhhilaaaGreat

open Go.RowKit Fl

/-- A choice: its kind, its client, its operation (kind, A, N), its bias. -/
structure Ch where
 kind:Int
 client:Int
 ok:Int
 oa:Int
 on:Int
 bias:Nat
 deriving DecidableEq
def Ch.cells (c:Ch):List Value:= [.int .i64 c.kind, .int .i64 c.client, .int .i64 c.ok, .int .i64 c.oa, .int .i64 c.on, .float .f64 c.bias]
def flatC (xs:List Ch):List Value:=xs.flatMap Ch.cells
theorem flatC_length (xs:List Ch):(flatC xs).length=xs.length * 6:=by
 induction xs with
 | nil=> rfl
 | cons x xs ih=>
  have:(flatC (x::xs))=x.cells ++ flatC xs:=rfl
  rw [this,List.length_append,ih,List.length_cons]
  show 6 + _=_
  omega
theorem flatC_append (xs ys:List Ch):flatC (xs ++ ys)=flatC xs ++ flatC ys:=by simp [flatC]
theorem flatC_get (xs:List Ch) (i j:Nat) (hi:i < xs.length) (hj:j < 6):(flatC xs)[i * 6 + j]?=(xs[i].cells)[j]?:=by
 induction xs generalizing i with
 | nil=> simp at hi
 | cons x xs ih=>
  have hl:x.cells.length=6:=rfl
  show (x.cells ++ flatC xs)[i * 6 + j]?=_
  cases i with
  | zero=> rw [List.getElem?_append_left (by omega)];simp
  | succ i=>
   rw [List.getElem?_append_right (by omega),hl,show (i + 1) * 6 + j - 6=i * 6 + j from by omega]
   simpa using ih i (by simpa using hi)
/-- A slice that reads as a row of choices. -/
def RdC (w:World) (v:Value) (xs:List Ch):Prop:=∃ ao cap,v= .slice ao xs.length cap∧xs.length≤cap∧(cap:Int)≤9223372036854775807∧
 (xs≠ []→∃ b off,ao=some ⟨b,off, .none⟩∧b < w.heap.size∧∀ i j,(hi:i < xs.length)→j < 6→w.cell? ⟨b,off + i * 6 + j, .none⟩=(xs[i].cells)[j]?)
theorem RdC.below {w w':World} {v:Value} {xs:List Ch} (h:RdC w v xs) (hb:Below w.heap.size w w'):RdC w' v xs:=
 let ⟨ao,cap,e,h1,h2,h3⟩:=h
 ⟨ao,cap,e,h1,h2,fun hx=> let ⟨b,off,ea,hlt,hc⟩:=h3 hx;⟨b,off,ea,Nat.lt_of_lt_of_le hlt hb.size,fun i j hi hj=> (hb.cell (p:=⟨b,_, .none⟩) hlt).trans (hc i j hi hj)⟩⟩
/-- A slice that owns its row. -/
abbrev OwnC (E:TypeId) (B:Nat) (w:World) (v:Value) (xs:List Ch):Prop:=w.ownsRow B E 6 v xs.length (flatC xs)
theorem OwnC.rd {E:TypeId} {B:Nat} {w:World} {v:Value} {xs:List Ch} (h:OwnC E B w v xs):RdC w v xs:=by
 rcases h.2 with ⟨h1,h2⟩ | ⟨g,cap,cur,rfl,h1,h2,h3,h4,h5,h6⟩
 ·have:xs= []:=List.eq_nil_of_length_eq_zero h2
  subst this
  exact ⟨none,0,h1,Nat.le_refl _,by omega,fun h=> absurd rfl h⟩
 ·refine ⟨_,cap,rfl,h3,by simp only [maxLen] at h4;omega,fun _=> ⟨g,0,rfl,(Array.getElem?_eq_some_iff.1 h2).1,fun i j hi hj=> ?_⟩⟩
  rw [cell_of_row w g _ cur E (0,0) h2,← flatC_get xs i j hi hj,← h6,List.getElem?_take,if_pos (by omega)]
  simp
theorem OwnC.later {E:TypeId} {B:Nat} {w w':World} {v:Value} {xs:List Ch} (h:OwnC E B w v xs) (hb:Below w.heap.size w w'):OwnC E B w' v xs:=by
 refine ⟨h.1,?_⟩
 rcases h.2 with hn | ⟨g,cap,cur,rfl,h1,h2,r⟩
 ·exact .inl hn
 ·exact .inr ⟨g,cap,cur,rfl,h1,by rw [hb.block g (Array.getElem?_eq_some_iff.1 h2).1];exact h2,r⟩
theorem OwnC.nil (E:TypeId) (B:Nat) (w:World):OwnC E B w (.slice none 0 0) []:=⟨rfl, .inl ⟨rfl,rfl⟩⟩
/-- Only what lies from B on has changed, if an owned row has grown. -/
theorem grown_below {E:TypeId} {B:Nat} {a w w':World} {v:Value} {n:Nat} {xs:List Value} (h:Below B a w) (ho:w.ownsRow B E 6 v n xs) (hB:B≤w.heap.size) (hg:w.grownBy w' v.ownBlock):Below B a w':=
 h.trans ⟨hg.os,hg.tape,hg.output,hg.size,fun k hk=> hg.block k (by omega) (fun e=> by have:=(ho.lt k e.symm).1;omega)⟩
end Go.Proofs.YtampacmmhhilaaaGreat

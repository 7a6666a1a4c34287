/- All accesses are those of one row of words: the walk of the law. -/
import Derived.Test.YtampacmmhhilaaaGreatZStpP

import Derived.Test.YtampacmmhhilaaaGreatZWAwk

import Derived.Test.YtampacmmhhilaaaGreatZChO

set_option linter.all false
namespace Go.Proofs.YtampacmmhhilaaaGreat

open Go.RowKit

attribute [local go_sem ↓] Go.wp_at_zero Go.wp_at_succ

theorem putst_any (k:Int) (hk:k=1∨k=2) (w:World):Calls Tryz.prog 33 #[.int .i64 k, .int .i64 0] w fun e w'=> e= .returned (.int .u64 (statusV k 0))∧w'=w:=by
 have hb:∀ W:World,Calls Tryz.prog 77 #[.int .i64 0] W fun e w'=> e= .returned (.bool true)∧w'=W:=fun W=> by
  go_enter Tryz.func77,Tryz.ntmps77
  go_wp2_with fail
  go_returns
  exact ⟨rfl,rfl⟩
 rcases hk with rfl | rfl
 all_goals
  go_enter Tryz.func33,Tryz.ntmps33
  go_wp2_with (first | (go_at_call 77;(with_reducible refine (hb _).mono ?_);rintro r w1 ⟨rfl,hw1⟩;obtain rfl:=hw1.symm) | fail)
  go_returns
  exact ⟨by rfl,rfl⟩
theorem blkCell {w w':World} {g:Nat} (h:w'.heap[g]?=w.heap[g]?) (o:Nat):w'.cell? ⟨g,o, .none⟩=w.cell? ⟨g,o, .none⟩:=by
 simp [World.cell?,h]
theorem rowW_set (ws:List Int) (k:Nat) (x:Int):(rowW ws).setIfInBounds k (.int .u64 x)=rowW (ws.set k x):=by
 unfold rowW
 simp [List.map_set]
theorem rowW_get {w:World} {M:Nat} {ws:List Int} {k:Nat} (h:RowAt w M (rowW ws) 57) (hk:k < ws.length):w.cell? ⟨M,k, .none⟩=some (.int .u64 (ws.getD k 0)):=by
 refine (h.cell k).trans ?_
 unfold rowW
 rw [List.getD_eq_getElem?_getD,List.getElem?_eq_getElem hk]
 simp [hk]
theorem room22_any (ao:Option Addr) (n cap:Nat) (m:Nat) (hn:(n:Int)≤9223372036854775807) (w:World):Calls Tryz.prog 16 #[.slice ao n cap, .int .i64 (m:Int)] w fun e w'=> e= .returned (.bool (decide (n≤m)))∧w'=w:=by
 by_cases h:n≤m
 ·rw [decide_eq_true h]
  have h':(n:Int)≤(m:Int):=by omega
  go_enter Tryz.func16,Tryz.ntmps16
  go_wp2_with fail
  go_returns
  exact ⟨rfl,rfl⟩
 ·rw [decide_eq_false h]
  have h':¬ (n:Int)≤(m:Int):=by omega
  go_enter Tryz.func16,Tryz.ntmps16
  go_wp2_with fail
  go_returns
  exact ⟨rfl,rfl⟩
set_option maxRecDepth 100000 in
set_option maxHeartbeats 8000000 in
theorem steps22_any (s:Sh) (xs:List Ch) (v:Value) (W:World) (hr:RdS W 6 v xs.length (xs.flatMap Ch.cells)):
  Calls Tryz.prog 5 #[.agg #[.int .i64 s.p, .int .i64 s.c, .int .i64 s.m],v] W fun e w'=> e= .returned (.bool true)∧Below W.heap.size W w':=by
 obtain ⟨ao,cap,rfl,hcap,hcm,hl,hrow⟩:=id hr
 obtain ⟨n,hn,hn'⟩:∃ n,Hid (n=xs.length)∧n=xs.length:=⟨_,Lib.hid rfl,rfl⟩
 rw [← hn'] at hcap hrow hl ⊢
 clear hn' hr
 have haw:=fun Y=> awake22_any Y
 have hro:∀ Y,Calls Tryz.prog 16 #[.slice ao n cap, .int .i64 2000] Y fun e w'=> e= .returned (.bool (decide (n≤2000)))∧w'=Y:=fun Y=> room22_any ao n cap 2000 (by omega) Y
 have hnil1:∀ (p:Nat) (W:World),(binOp .eql 27 (.pointer (some ⟨p,0, .none⟩)) (.pointer none)).run Tryz.prog W= .ok (.bool false) W:=fun p W=> by kernel_rfl
 have hnil0:∀ (W:World),(binOp .eql 27 (.pointer none) (.pointer none)).run Tryz.prog W= .ok (.bool true) W:=fun W=> by kernel_rfl
 have hb0:=(Below.refl W.heap.size W).alloc (Nat.le_refl _) (.cells #[.int .i64 s.p, .int .i64 s.c, .int .i64 s.m] 23)
 have t0:RowAt (W.alloc (.cells #[.int .i64 s.p, .int .i64 s.c, .int .i64 s.m] 23)) W.heap.size #[.int .i64 s.p, .int .i64 s.c, .int .i64 s.m] 23:=heap_alloc_new _ _
 replace haw:=Lib.hid haw
 replace hrow:=Lib.hid hrow
 replace hl:=Lib.hid hl
 by_cases hlen:¬ n≤2000
 ·rw [decide_eq_false hlen] at hro
  replace hro:=Lib.hid hro
  clear hlen
  go_enter Tryz.func5,Tryz.ntmps5
  go_wp2_with (first
   | (go_at_call 27;(with_reducible refine (haw.out _).mono ?_);rintro r w1 ⟨rfl,hb1⟩)
   | (go_at_call 16;(with_reducible refine (hro.out _).mono ?_);rintro r w2 ⟨rfl,hw2⟩;obtain rfl:=hw2.symm)
   | fail)
  go_returns
  exact ⟨rfl,belowTrans hb0 hb1⟩
 replace hlen:=Decidable.not_not.1 hlen
 rw [decide_eq_true hlen] at hro
 replace hro:=Lib.hid hro
 by_cases hm:¬ mayB s.p s.c s.m=true
 ·have hbg:=fun Y=> begin_no s Y hm
  replace hbg:=Lib.hid hbg
  clear hm
  go_enter Tryz.func5,Tryz.ntmps5
  go_upto_region 5 with (first
   | (go_at_call 27;(with_reducible refine (haw.out _).mono ?_);rintro r w1 ⟨rfl,hb1⟩)
   | (go_at_call 16;(with_reducible refine (hro.out _).mono ?_);rintro r w2 ⟨rfl,hw2⟩;obtain rfl:=hw2.symm)
   | fail)
  have t1:=t0.below hb1
  have c0:w1.cell? ⟨W.heap.size,0, .none⟩=some (.int .i64 s.p):=t1.cell 0
  have c1:w1.cell? ⟨W.heap.size,1, .none⟩=some (.int .i64 s.c):=t1.cell 1
  have c2:w1.cell? ⟨W.heap.size,2, .none⟩=some (.int .i64 s.m):=t1.cell 2
  have hb01:=belowTrans hb0 hb1
  clear t0 t1 hb0 hb1
  go_wp2_with (first
   | (go_at_call 17;(with_reducible refine (hbg.out _).mono ?_);rintro r w3 ⟨hb3,rfl⟩)
   | fail)
  go_returns
  exact ⟨rfl,belowTrans hb01 hb3⟩
 replace hm:=Decidable.not_not.1 hm
 have hbg:=fun Y=> begin_yes s Y hm
 have htt:=fun Y=> lwTotal_any s Y
 have hT:=(lwTotal_bd hm).2
 obtain ⟨N,hN,hNN⟩:∃ N:Nat,totalV s.p s.c s.m=(N:Int)∧N≤2000:=⟨(totalV s.p s.c s.m).toNat,by omega,by omega⟩
 rw [hN] at htt
 have hmk:=make_wds N (by omega)
 have hok:=fun i (hi:i≤n)=> acts_at hm xs i (hn.out ▸ hi)
 have hNl:∀ i,i≤n→((wdNew s).acts s (xs.take i)).m.ws.length=N:=fun i hi=> by
  have h1:=(hok i hi).fi.len
  rw [hN] at h1;omega
 replace hbg:=Lib.hid hbg
 replace htt:=Lib.hid htt
 replace hok:=Lib.hid hok
 replace hNl:=Lib.hid hNl
 replace hN:=Lib.hid hN
 clear hT
 go_enter Tryz.func5,Tryz.ntmps5
 go_upto_region 5 with (first
  | (go_at_call 27;(with_reducible refine (haw.out _).mono ?_);rintro r w1 ⟨rfl,hb1⟩)
  | (go_at_call 16;(with_reducible refine (hro.out _).mono ?_);rintro r w2 ⟨rfl,hw2⟩;obtain rfl:=hw2.symm)
  | fail)
 have t1:=t0.below hb1
 have hb01:=belowTrans hb0 hb1
 obtain ⟨H,hH,hH'⟩:∃ H,Hid (H=W.heap.size)∧H=W.heap.size:=⟨_,Lib.hid rfl,rfl⟩
 rw [← hH'] at t1 hb01 ⊢
 replace hrow:=Lib.hid (fun h=> (hrow.out h:_))
 have hbH:∀ b,b < W.heap.size→b < H:=fun b h=> by omega
 replace hbH:=Lib.hid hbH
 have lH:=t1.lt
 clear hH' t0 hb0 hb1
 have c0:w1.cell? ⟨H,0, .none⟩=some (.int .i64 s.p):=t1.cell 0
 have c1:w1.cell? ⟨H,1, .none⟩=some (.int .i64 s.c):=t1.cell 1
 have c2:w1.cell? ⟨H,2, .none⟩=some (.int .i64 s.m):=t1.cell 2
 go_upto_region 9 with (first
  | (go_at_call 17;(with_reducible refine (hbg.out _).mono ?_);rintro r w3 ⟨hb3,g,vv,x0,rfl,hx3⟩;have t3:=t1.below hb3;have d0:w3.cell? ⟨H,0, .none⟩=some (.int .i64 s.p):=t3.cell 0;have d1:w3.cell? ⟨H,1, .none⟩=some (.int .i64 s.c):=t3.cell 1;have d2:w3.cell? ⟨H,2, .none⟩=some (.int .i64 s.m):=t3.cell 2)
  | (go_at_call 32;(with_reducible refine (htt.out _).mono ?_);rintro r w4 ⟨rfl,hb4⟩)
  | fail)
 have s3:=hb3.size
 have s4:=hb4.size
 have ha:=(Below.refl w4.heap.size w4).alloc (Nat.le_refl _) (.cells (madeCells #[.int .u64 0] N) 57)
 have hx4:WdP H (fun i=> w1.heap.size≤i∧i < w3.heap.size) (w4.alloc (.cells (madeCells #[.int .u64 0] N) 57)) g s (wdNew s) x0:=((hx3.below hb4).below ha).lower (by omega)
 have hM4:RowAt (w4.alloc (.cells (madeCells #[.int .u64 0] N) 57)) w4.heap.size (rowW (wdNew s).m.ws) 57:=by
  have h:=heap_alloc_new w4 (.cells (madeCells #[.int .u64 0] N) 57)
  have e:(wdNew s).m.ws=List.replicate N 0:=by
   show List.replicate (totalV s.p s.c s.m).toNat (0:Int)=_
   rw [hN.out,Int.toNat_natCast]
  rw [e,← rowW_new]
  exact h
 have hb4W:Below H W (w4.alloc (.cells (madeCells #[.int .u64 0] N) 57)):=(hb01.trans ((belowTrans (belowTrans hb3 hb4) ha).mono (by omega)))
 generalize w4.alloc (.cells (madeCells #[.int .u64 0] N) 57)=X4 at *
 obtain ⟨M,hMd,hMd'⟩:∃ M,Hid (M=w4.heap.size)∧M=w4.heap.size:=⟨_,Lib.hid rfl,rfl⟩
 rw [← hMd'] at hM4 ⊢
 have hMF:¬ ((fun i=> w1.heap.size≤i∧i < w3.heap.size) M):=fun e=> by have:=e.2;omega
 have hHM:H < M:=by omega
 clear hMd' s3 s4 ha hb3 hb4 hx3 t1 t3 c0 c1 c2 d0 d1 d2 lH hb01
 go_wp2
 go_loopw [8] (fun v8 wr=> ∃ (i:Nat) (F:Nat→Prop) (x:Wx),i≤n∧v8= .int .i64 i∧WdP H F wr g s ((wdNew s).acts s (xs.take i)) x∧¬ F M∧RowAt wr M (rowW ((wdNew s).acts s (xs.take i)).m.ws) 57∧Below H W wr) (fun v8 _=> n - (intOf v8).toNat)
 case atStart=> exact ⟨0,_,x0,Nat.zero_le _,rfl,hx4,hMF,hM4,hb4W⟩
 case round=>
  clear hx4 hMF hM4 hb4W
  obtain ⟨i,F,x,hin,rfl,hx,hFM,hM,hbr⟩:=hrel
  have hli:=hNl.out i hin
  have hoki:=hok.out i hin
  by_cases hi:i < n
  ·have hii:(i:Int) < (n:Int):=by omega
   have hi0:(0:Int)≤(i:Int):=by omega
   have wi1:IntKind.i64.wrap ((i:Int) + 1)=(i:Int) + 1:=IntWalk.i64_in _ ⟨by omega,by omega⟩
   have hil:i < xs.length:=hn.out ▸ hi
   have hat:=acts_take (s:=s) (d:=wdNew s) hil
   have hln1:=hNl.out (i + 1) (by omega)
   obtain ⟨gb,gof,rfl,hgb,hcell⟩:=hrow.out (by omega)
   have hgbH:=hbH.out _ hgb
   have hcg:=fun k hk=> chGet xs i hil k hk
   rw [hat] at hln1
   generalize (wdNew s).acts s (xs.take i)=d at *
   generalize hc:xs[i]=c at *
   have hshp:=act_shp hoki c
   have hlg:=hoki.lg
   have hstb:=hoki.st
   have hlg':=(wdAct_ok hoki c).lg
   have hstb':=(wdAct_ok hoki c).st
   obtain ⟨ck,cc,co,ca,cn,cb⟩:=c
   have hy:∀ X,Below H W X→X.cell? ⟨gb,gof + i * 6, .none⟩=some (.int .i64 ck)∧X.cell? ⟨gb,gof + i * 6 + 1, .none⟩=some (.int .i64 cc)∧X.cell? ⟨gb,gof + i * 6 + 2, .none⟩=some (.int .i64 co)∧X.cell? ⟨gb,gof + i * 6 + 3, .none⟩=some (.int .i64 ca)∧X.cell? ⟨gb,gof + i * 6 + 4, .none⟩=some (.int .i64 cn)∧X.cell? ⟨gb,gof + i * 6 + 5, .none⟩=some (.float .f64 cb)∧gb < X.heap.size:=fun X hb=> by
    have hk:∀ o,X.cell? ⟨gb,o, .none⟩=W.cell? ⟨gb,o, .none⟩:=fun o=> hb.cell (p:=⟨gb,o, .none⟩) hgbH
    have hq:∀ k,k < 6→X.cell? ⟨gb,gof + i * 6 + k, .none⟩=(Ch.cells ⟨ck,cc,co,ca,cn,cb⟩)[k]?:=fun k hk6=> by
     rw [hk,Nat.add_assoc,hcell _ (by omega)]
     exact hcg k hk6
    exact ⟨hq 0 (by omega),hq 1 (by omega),hq 2 (by omega),hq 3 (by omega),hq 4 (by omega),hq 5 (by omega),by have:=hb.size;omega⟩
   have hst:∀ F (d:Wd) x X,WdP H F X g s d x→d.lg.length≤100000000→Calls Tryz.prog 30 #[.pointer (some ⟨g,0, .none⟩)] X fun e w'=> Below X.heap.size X w'∧∃ ao cap,e= .returned (.slice ao d.lg.length cap)∧d.lg.length≤cap∧(cap:Int)≤9223372036854775807∧RdS w' 6 (.slice ao d.lg.length cap) d.lg.length (d.lg.flatMap fun e=> e.cells.toList):=fun F d x X hx hl=> by
    refine (wacc_any hx hl).mono fun e w' ⟨v,h1,h2,h3⟩=> ⟨h2,?_⟩
    have h4:=RdS.of_own h3
    obtain ⟨ao,cap,rfl,hc,hm,_⟩:=id h4
    exact ⟨ao,cap,h1,hc,hm,h4⟩
   have hdo:∀ X,WdP H F X g s d x→H≤X.heap.size→Calls Tryz.prog 25 #[.pointer (some ⟨g,0, .none⟩), .agg #[.int .i64 ck, .int .i64 cc, .int .i64 co, .int .i64 ca, .int .i64 cn, .float .f64 cb]] X fun e w'=> e= .returned (.int .i64 (d.act s ⟨ck,cc,co,ca,cn,cb⟩).2)∧WdTo H F X w' g s (d.act s ⟨ck,cc,co,ca,cn,cb⟩).1:=fun X hx hB=> wdo_any hx hB hoki (by omega) _
   have hch:∀ X,Calls Tryz.prog 29 #[.agg #[.int .i64 ck, .int .i64 cc, .int .i64 co, .int .i64 ca, .int .i64 cn, .float .f64 cb]] X fun e w'=> e= .returned (.agg #[.int .i64 ck, .int .i64 cc, .int .i64 co, .int .i64 ca, .int .i64 cn, .float .f64 cb])∧Below X.heap.size X w':=fun X=> wchoice_any ⟨ck,cc,co,ca,cn,cb⟩ X
   have hfin:∀ X F' x',WdP H F' X g s (d.act s ⟨ck,cc,co,ca,cn,cb⟩).1 x'→¬ F' M→RowAt X M (rowW (d.act s ⟨ck,cc,co,ca,cn,cb⟩).1.m.ws) 57→Below H W X→∃ (i':Nat) (F:Nat→Prop) (x:Wx),i'≤n∧Value.int .i64 ((i:Int) + 1)= .int .i64 i'∧WdP H F X g s ((wdNew s).acts s (xs.take i')) x∧¬ F M∧RowAt X M (rowW ((wdNew s).acts s (xs.take i')).m.ws) 57∧Below H W X:=fun X F' x' h1 h2 h3 h4=> ⟨i + 1,F',x',by omega,by go_num,by rw [hat];exact h1,h2,by rw [hat];exact h3,h4⟩
   have hxlt:=hx.lt
   obtain ⟨n0,hn0,hn0'⟩:∃ n0,Hid (n0=d.lg.length)∧n0=d.lg.length:=⟨_,Lib.hid rfl,rfl⟩
   have hn0b:n0≤2000:=by omega
   have hstA:=hst F d x
   rw [← hn0'] at hstA
   replace hstA:=Lib.hid hstA
   have hstB:=Lib.hid hst
   replace hy:=Lib.hid hy
   replace hdo:=Lib.hid hdo
   replace hch:=Lib.hid hch
   replace hfin:=Lib.hid hfin
   replace hxlt:=Lib.hid hxlt
   generalize (d.act s ⟨ck,cc,co,ca,cn,cb⟩).1=d' at *
   generalize (d.act s ⟨ck,cc,co,ca,cn,cb⟩).2=er at *
   have hd'l:d'.lg.length≤100000000:=by omega
   replace hd'l:=Lib.hid hd'l
   clear hst hcell hcg hc hat hlg hlg' hstb hstb' hn0' hoki
   replace hcap:=Lib.hid hcap
   replace hcm:=Lib.hid hcm
   go_upto_region 13 with (first
    | (go_at_call 30;(with_reducible refine (hstA.out _ hx (by omega)).mono ?_);rintro r w5 ⟨hb5,ao5,cap5,rfl,hc5,hc6,hr5⟩;have hs5:=hb5.size)
    | fail)
   have hbr5:=hbr.trans (hb5.mono (by have:=hM.lt;omega))
   obtain ⟨z0,z1,z2,z3,z4,z5,zl⟩:=hy.out _ hbr5
   have hH5:H≤w5.heap.size:=by have:=hM.lt;omega
   have hx5:=hx.below hb5
   have hM5:=hM.below hb5
   clear hr5 hc5 hc6 hbr hx hM
   go_upto_region 14 with (first
    | (go_at_call 29;(with_reducible refine (hch.out _).mono ?_);rintro r w6 ⟨rfl,hb6⟩;have hx6:=hx5.below hb6;have hs6:=hb6.size;have hH6:H≤w6.heap.size:=(by omega))
    | (go_at_call 25;(with_reducible refine (hdo.out _ hx6 hH6).mono ?_);rintro r w7 ⟨rfl,⟨x7,hx7⟩,ho7,hH7⟩)
    | fail)
   have hbr7:Below H W w7:=(hbr5.trans (hb6.mono hH5)).trans (ho7.below hH6 (fun j hj=> (hxlt.out j hj).1))
   have hM7:RowAt w7 M (rowW d.m.ws) 57:=(hM5.below hb6).only ho7 hFM
   have hF7:¬ grow F w6 w7 M:=grow_fresh hFM (hM5.below hb6).lt
   clear z0 z1 z2 z3 z4 z5 zl hx5 hM5 hx6 hb6 hbr5 hs6 hH6 hs5 hb5 hH5 ho7 hdo hch hstA
   obtain ⟨z0,z1,z2,z3,z4,z5,zl⟩:=hy.out _ hbr7
   have hgM:gb≠M:=by omega
   have lM7:=hM7.lt
   have fM7:=rowFree hM7
   replace hx7:=Lib.hid hx7
   replace hM7:=Lib.hid hM7
   generalize hws:d.m.ws=ws at *
   generalize hws':d'.m.ws=ws' at *
   generalize hlgg:d.lg=lg at *
   generalize hlg1:d'.lg=lg' at *
   cases hshp with
   | start hk h=>
    replace hk:ck=1:=hk
    subst hk
    replace h:0≤cc∧cc < (N:Int):=by rw [← hli];exact h
    have hps:=fun Y=> putst_any 1 (by omega) Y
    have zm:w7.cell? ⟨M,cc.toNat, .none⟩=some (.int .u64 (ws.getD cc.toNat 0)):=rowW_get hM7.out (by omega)
    have h0:=h.1
    have h1:=h.2
    generalize statusV 1 0=sv at *
    generalize ws.getD cc.toNat 0=old at *
    have hzs:∀ k v,(w7.setCell ⟨M,k, .none⟩ v).drew.cell? ⟨gb,gof + i * 6 + 1, .none⟩=some (.int .i64 cc):=fun k v=> (blkCell (Below.heap_setCell w7 ⟨M,k, .none⟩ v gb hgM) _).trans z1
    replace hzs:=Lib.hid hzs
    replace hps:=Lib.hid hps
    have hstC:∀ (F:Nat→Prop) x X,WdP H F X g s d' x→Calls Tryz.prog 30 #[.pointer (some ⟨g,0, .none⟩)] X fun e w'=> Below X.heap.size X w'∧∃ ao cap,e= .returned (.slice ao n0 cap)∧n0≤cap∧(cap:Int)≤9223372036854775807:=fun F x X hx=> by
     have h:=hstB.out F d' x X hx (by rw [hlg1];exact hd'l.out)
     rw [hlg1,← hn0.out] at h
     exact h.mono fun e w' ⟨h1,ao,cap,h2,h3,h4,_⟩=> ⟨h1,ao,cap,h2,h3,h4⟩
    replace hstC:=Lib.hid hstC
    go_upto_region 15 with fail
    go_region_held3 (fun Y=> Y.cell? ⟨gb,gof + i * 6 + 1, .none⟩=some (.int .i64 cc)) (first | exact z1 | exact hzs.out _ _ | fail)
     (first
      | (go_at_call 33;(with_reducible refine (hps.out _).mono ?_);rintro r w8 ⟨rfl,hw8⟩;obtain rfl:=hw8.symm)
      | fail)
    have hbd:=(Below.refl w7.heap.size w7).drew
    have hM8:RowAt (w7.drew.setCell ⟨M,cc.toNat, .none⟩ (.int .u64 sv)) M (rowW (ws.set cc.toNat sv)) 57:=by
     rw [← rowW_set]
     exact hM7.out.drew.set cc.toNat _
    have hx8:WdP H (grow F w6 w7) (w7.drew.setCell ⟨M,cc.toNat, .none⟩ (.int .u64 sv)) g s d' x7:=(hx7.out.below hbd).only (Only.setCell (Only.refl (fun k=> k=M) _) (p:=⟨M,cc.toNat, .none⟩) (.inl rfl) _) (fun j hj e=> hF7 (e ▸ hj))
    have hbr8:Below H W (w7.drew.setCell ⟨M,cc.toNat, .none⟩ (.int .u64 sv)):=hbr7.drew.setCell (by show H≤M;omega) _
    clear z0 z1 z2 z3 z4 z5 zl zm
    change Exit.then _ _ _ _ (w7.drew.setCell ⟨M,cc.toNat, .none⟩ (.int .u64 sv))
    generalize w7.drew.setCell ⟨M,cc.toNat, .none⟩ (.int .u64 sv)=w8 at *
    obtain ⟨z0,z1,z2,z3,z4,z5,zl⟩:=hy.out _ hbr8
    replace hx8:=Lib.hid hx8
    replace hM8:=Lib.hid hM8
    go_upto_region 19 with (first
     | (go_at_call 30;(with_reducible refine (hstC.out _ _ _ hx8.out).mono ?_);rintro r w9 ⟨hb9,ao9,cap9,rfl,hc9,hm9⟩)
     | fail)
    have hH9:H≤w9.heap.size:=by have:=hM8.out.lt;have:=hb9.size;omega
    have hz:=hfin.out _ _ _ (hx8.out.below hb9) hF7 (hM8.out.below hb9) (hbr8.trans (hb9.mono (by have:=hM8.out.lt;omega)))
    replace hz:=Lib.hid hz
    go_wp2
    go_loopw [12] (fun v12 wx=> v12= .int .i64 (n0:Int)∧wx=w9) (fun _ _=> 0)
    case atStart=> exact ⟨rfl,rfl⟩
    case round=>
     obtain ⟨rfl,hwx⟩:=hrel
     obtain rfl:=hwx.symm
     have hno:¬ (n0:Int) < (n0:Int):=by omega
     go_wp2_with fail
     exact ⟨hz.out,by simp only [intOf];omega⟩
   | kill hk h=>
    replace hk:ck=4:=hk
    subst hk
    replace h:0≤cc∧cc < (N:Int):=by rw [← hli];exact h
    have hps:=fun Y=> putst_any 2 (by omega) Y
    have zm:w7.cell? ⟨M,cc.toNat, .none⟩=some (.int .u64 (ws.getD cc.toNat 0)):=rowW_get hM7.out (by omega)
    have h0:=h.1
    have h1:=h.2
    generalize statusV 2 0=sv at *
    generalize ws.getD cc.toNat 0=old at *
    have hzs:∀ k v,(w7.setCell ⟨M,k, .none⟩ v).drew.cell? ⟨gb,gof + i * 6 + 1, .none⟩=some (.int .i64 cc):=fun k v=> (blkCell (Below.heap_setCell w7 ⟨M,k, .none⟩ v gb hgM) _).trans z1
    replace hzs:=Lib.hid hzs
    replace hps:=Lib.hid hps
    have hstC:∀ (F:Nat→Prop) x X,WdP H F X g s d' x→Calls Tryz.prog 30 #[.pointer (some ⟨g,0, .none⟩)] X fun e w'=> Below X.heap.size X w'∧∃ ao cap,e= .returned (.slice ao n0 cap)∧n0≤cap∧(cap:Int)≤9223372036854775807:=fun F x X hx=> by
     have h:=hstB.out F d' x X hx (by rw [hlg1];exact hd'l.out)
     rw [hlg1,← hn0.out] at h
     exact h.mono fun e w' ⟨h1,ao,cap,h2,h3,h4,_⟩=> ⟨h1,ao,cap,h2,h3,h4⟩
    replace hstC:=Lib.hid hstC
    go_upto_region 17 with fail
    go_region_held3 (fun Y=> Y.cell? ⟨gb,gof + i * 6 + 1, .none⟩=some (.int .i64 cc)) (first | exact z1 | exact hzs.out _ _ | fail)
     (first
      | (go_at_call 33;(with_reducible refine (hps.out _).mono ?_);rintro r w8 ⟨rfl,hw8⟩;obtain rfl:=hw8.symm)
      | fail)
    have hbd:=(Below.refl w7.heap.size w7).drew
    have hM8:RowAt (w7.drew.setCell ⟨M,cc.toNat, .none⟩ (.int .u64 sv)) M (rowW (ws.set cc.toNat sv)) 57:=by
     rw [← rowW_set]
     exact hM7.out.drew.set cc.toNat _
    have hx8:WdP H (grow F w6 w7) (w7.drew.setCell ⟨M,cc.toNat, .none⟩ (.int .u64 sv)) g s d' x7:=(hx7.out.below hbd).only (Only.setCell (Only.refl (fun k=> k=M) _) (p:=⟨M,cc.toNat, .none⟩) (.inl rfl) _) (fun j hj e=> hF7 (e ▸ hj))
    have hbr8:Below H W (w7.drew.setCell ⟨M,cc.toNat, .none⟩ (.int .u64 sv)):=hbr7.drew.setCell (by show H≤M;omega) _
    clear z0 z1 z2 z3 z4 z5 zl zm
    change Exit.then _ _ _ _ (w7.drew.setCell ⟨M,cc.toNat, .none⟩ (.int .u64 sv))
    generalize w7.drew.setCell ⟨M,cc.toNat, .none⟩ (.int .u64 sv)=w8 at *
    obtain ⟨z0,z1,z2,z3,z4,z5,zl⟩:=hy.out _ hbr8
    replace hx8:=Lib.hid hx8
    replace hM8:=Lib.hid hM8
    go_upto_region 19 with (first
     | (go_at_call 30;(with_reducible refine (hstC.out _ _ _ hx8.out).mono ?_);rintro r w9 ⟨hb9,ao9,cap9,rfl,hc9,hm9⟩)
     | fail)
    have hH9:H≤w9.heap.size:=by have:=hM8.out.lt;have:=hb9.size;omega
    have hz:=hfin.out _ _ _ (hx8.out.below hb9) hF7 (hM8.out.below hb9) (hbr8.trans (hb9.mono (by have:=hM8.out.lt;omega)))
    replace hz:=Lib.hid hz
    go_wp2
    go_loopw [12] (fun v12 wx=> v12= .int .i64 (n0:Int)∧wx=w9) (fun _ _=> 0)
    case atStart=> exact ⟨rfl,rfl⟩
    case round=>
     obtain ⟨rfl,hwx⟩:=hrel
     obtain rfl:=hwx.symm
     have hno:¬ (n0:Int) < (n0:Int):=by omega
     go_wp2_with fail
     exact ⟨hz.out,by simp only [intOf];omega⟩
   | bad h=>
    have be:(er==0)=false:=by rw [beq_eq_false_iff_ne];exact h
    have hstC:∀ (F:Nat→Prop) x X,WdP H F X g s d' x→Calls Tryz.prog 30 #[.pointer (some ⟨g,0, .none⟩)] X fun e w'=> Below X.heap.size X w'∧∃ ao cap,e= .returned (.slice ao n0 cap)∧n0≤cap∧(cap:Int)≤9223372036854775807:=fun F x X hx=> by
     have h:=hstB.out F d' x X hx (by rw [hlg1];exact hd'l.out)
     rw [hlg1,← hn0.out] at h
     exact h.mono fun e w' ⟨h1,ao,cap,h2,h3,h4,_⟩=> ⟨h1,ao,cap,h2,h3,h4⟩
    replace hstC:=Lib.hid hstC
    go_upto_region 19 with (first
     | (go_at_call 30;(with_reducible refine (hstC.out _ _ _ hx7.out).mono ?_);rintro r w9 ⟨hb9,ao9,cap9,rfl,hc9,hm9⟩)
     | fail)
    have hH9:H≤w9.heap.size:=by have:=hM7.out.lt;have:=hb9.size;omega
    have hz:=hfin.out _ _ _ (hx7.out.below hb9) hF7 (hM7.out.below hb9) (hbr7.trans (hb9.mono (by have:=hM7.out.lt;omega)))
    replace hz:=Lib.hid hz
    go_wp2
    go_loopw [12] (fun v12 wx=> v12= .int .i64 (n0:Int)∧wx=w9) (fun _ _=> 0)
    case atStart=> exact ⟨rfl,rfl⟩
    case round=>
     obtain ⟨rfl,hwx⟩:=hrel
     obtain rfl:=hwx.symm
     have hno:¬ (n0:Int) < (n0:Int):=by omega
     go_wp2_with fail
     exact ⟨hz.out,by simp only [intOf];omega⟩
   | none h1 h4=>
    replace h1:ck≠1:=h1
    replace h4:ck≠4:=h4
    have b1:(ck==1)=false:=by rw [beq_eq_false_iff_ne];exact h1
    have b4:(ck==4)=false:=by rw [beq_eq_false_iff_ne];exact h4
    have hstC:∀ (F:Nat→Prop) x X,WdP H F X g s d' x→Calls Tryz.prog 30 #[.pointer (some ⟨g,0, .none⟩)] X fun e w'=> Below X.heap.size X w'∧∃ ao cap,e= .returned (.slice ao n0 cap)∧n0≤cap∧(cap:Int)≤9223372036854775807:=fun F x X hx=> by
     have h:=hstB.out F d' x X hx (by rw [hlg1];exact hd'l.out)
     rw [hlg1,← hn0.out] at h
     exact h.mono fun e w' ⟨h1,ao,cap,h2,h3,h4,_⟩=> ⟨h1,ao,cap,h2,h3,h4⟩
    replace hstC:=Lib.hid hstC
    go_upto_region 19 with (first
     | (go_at_call 30;(with_reducible refine (hstC.out _ _ _ hx7.out).mono ?_);rintro r w9 ⟨hb9,ao9,cap9,rfl,hc9,hm9⟩)
     | fail)
    have hH9:H≤w9.heap.size:=by have:=hM7.out.lt;have:=hb9.size;omega
    have hz:=hfin.out _ _ _ (hx7.out.below hb9) hF7 (hM7.out.below hb9) (hbr7.trans (hb9.mono (by have:=hM7.out.lt;omega)))
    replace hz:=Lib.hid hz
    go_wp2
    go_loopw [12] (fun v12 wx=> v12= .int .i64 (n0:Int)∧wx=w9) (fun _ _=> 0)
    case atStart=> exact ⟨rfl,rfl⟩
    case round=>
     obtain ⟨rfl,hwx⟩:=hrel
     obtain rfl:=hwx.symm
     have hno:¬ (n0:Int) < (n0:Int):=by omega
     go_wp2_with fail
     exact ⟨hz.out,by simp only [intOf];omega⟩
   | acc h1 h4 ha=>
     rename_i a
     replace h1:ck≠1:=h1
     replace h4:ck≠4:=h4
     have b1:(ck==1)=false:=by rw [beq_eq_false_iff_ne];exact h1
     have b4:(ck==4)=false:=by rw [beq_eq_false_iff_ne];exact h4
     have hstD:∀ (F:Nat→Prop) x X,WdP H F X g s d' x→Calls Tryz.prog 30 #[.pointer (some ⟨g,0, .none⟩)] X fun e w'=> Below X.heap.size X w'∧∃ ab cap,e= .returned (.slice (some ⟨ab,0, .none⟩) (n0 + 1) cap)∧n0 + 1≤cap∧(cap:Int)≤9223372036854775807∧X.heap.size≤ab∧ab < w'.heap.size∧∀ k,k < 6→w'.cell? ⟨ab,n0 * 6 + k, .none⟩= [Value.int .i64 a.c,Value.int .i64 a.k,Value.int .i64 a.a,Value.int .u64 a.was,Value.int .u64 a.put,Value.bool a.ok][k]?:=fun F x X hx=> by
      refine (wacc_any hx (by rw [hlg1];exact hd'l.out)).mono fun e w' ⟨v,h1,h2,h3⟩=> ⟨h2,?_⟩
      have h5:=RdS.of_own h3
      rw [hlg1] at h3 h5
      have hl2:(lg ++ [a]).length=n0 + 1:=by rw [List.length_append,List.length_singleton,hn0.out]
      rw [hl2] at h3 h5
      rcases h3.2 with ⟨_,h⟩ | ⟨ab,cap,cur,rfl,hbs,hhp,hcp,hcm,_⟩
      ·omega
      ·obtain ⟨ao,cp,e1,e2,e3,e4,e5⟩:=h5
       obtain ⟨b,off,e6,e7,e8⟩:=e5 (by omega)
       injection e1 with e1 e9 e10
       subst e6
       injection e1 with e1
       injection e1 with e1 e11
       subst e1 e11
       refine ⟨ab,cap,h1,hcp,(by have:(maxLen:Int)≤9223372036854775807:=(by decide);omega),hbs,e7,fun k hk=> ?_⟩
       have h6:=e8 (n0 * 6 + k) (by omega)
       rw [Nat.zero_add] at h6
       refine h6.trans ?_
       have h7:=acGet lg a k hk
       rw [← hn0.out] at h7
       exact h7
     replace hstD:=Lib.hid hstD
     cases ha with
     | load pc pa _=>
      have hpa:0≤pa∧pa < (N:Int):=by rw [← hli];assumption
      have hp0:=hpa.1
      have hp1:=hpa.2
      generalize hwg:ws.getD pa.toNat 0=was at *
      obtain ⟨ws2,hw2,hw2'⟩:∃ ws2,Hid (ws2=ws)∧ws2=ws:=⟨_,Lib.hid rfl,rfl⟩
      go_upto_region 19 with (first
       | (go_at_call 30;(with_reducible refine (hstD.out _ _ _ hx7.out).mono ?_);rintro r w9 ⟨hb9,ab,cap9,rfl,hc9,hm9,hab,habl,hA⟩)
       | fail)
      have hM9:=hM7.out.below hb9
      have hx9:=hx7.out.below hb9
      have hH9:H≤w9.heap.size:=by have:=hM9.lt;omega
      have hbr9:Below H W w9:=hbr7.trans (hb9.mono (by omega))
      have habM:ab≠M:=by omega
      have hz:=fun X (h1:RowAt X M (rowW ws2) 57) (h2:Only (fun k=> k=M) w9 X)=> hfin.out X _ _ (hx9.only h2 (fun j hj e=> hF7 (e ▸ hj))) hF7 (hw2' ▸ h1) (hbr9.trans (h2.below hH9 (fun k hk=> by omega)))
      replace hz:=Lib.hid hz
      clear hw2'
      replace hA:=Lib.hid hA
      have hn1:(n0:Int) < ((n0 + 1:Nat):Int):=by omega
      have hn2:(n0:Int) < (n0:Int) + 1:=by omega
      have wj:IntKind.i64.wrap ((n0:Int) + 1)=(n0:Int) + 1:=IntWalk.i64_in _ ⟨by omega,by omega⟩
      have hn00:(0:Int)≤(n0:Int):=by omega
      clear hb9 hx9 z0 z1 z2 z3 z4 z5 zl hbr7 hbr9
      go_wp2
      go_loopw [12] (fun v12 wx=> ∃ j:Nat,(j=n0∨j=n0 + 1)∧v12= .int .i64 (j:Int)∧RowAt wx M (rowW (if j=n0 then ws else ws2)) 57∧Only (fun k=> k=M) w9 wx) (fun v12 _=> n0 + 1 - (intOf v12).toNat)
      case atStart=> exact ⟨n0, .inl rfl,rfl,by rw [if_pos rfl];exact hM9,Only.refl _ _⟩
      case round=>
       obtain ⟨j,hj,rfl,hMx,hox⟩:=hrel
       have hsx:=hox.size
       rcases hj with rfl | rfl
       ·rw [if_pos rfl] at hMx
        have hA':∀ k,k < 6→wr.cell? ⟨ab,j * 6 + k, .none⟩= [Value.int .i64 pc,Value.int .i64 0,Value.int .i64 pa,Value.int .u64 was,Value.int .u64 0,Value.bool true][k]?:=fun k hk=> (blkCell (hox.block ab habl (by omega)) _).trans (hA.out k hk)
        have A0:wr.cell? ⟨ab,j * 6, .none⟩=some (.int .i64 pc):=hA' 0 (by omega)
        have A1:wr.cell? ⟨ab,j * 6 + 1, .none⟩=some (.int .i64 0):=hA' 1 (by omega)
        have A2:wr.cell? ⟨ab,j * 6 + 2, .none⟩=some (.int .i64 pa):=hA' 2 (by omega)
        have A3:wr.cell? ⟨ab,j * 6 + 3, .none⟩=some (.int .u64 was):=hA' 3 (by omega)
        have A4:wr.cell? ⟨ab,j * 6 + 4, .none⟩=some (.int .u64 0):=hA' 4 (by omega)
        have A5:wr.cell? ⟨ab,j * 6 + 5, .none⟩=some (.bool true):=hA' 5 (by omega)
        have lab:ab < wr.heap.size:=by omega
        clear hA'
        go_upto_region 23 with fail
        have tb:RowAt (wr.alloc (.cells #[.int .i64 pc, .int .i64 0, .int .i64 pa, .int .u64 was, .int .u64 0, .bool true] 59)) wr.heap.size #[.int .i64 pc, .int .i64 0, .int .i64 pa, .int .u64 was, .int .u64 0, .bool true] 59:=heap_alloc_new _ _
        have hM0:=hMx.alloc (.cells #[.int .i64 pc, .int .i64 0, .int .i64 pa, .int .u64 was, .int .u64 0, .bool true] 59)
        have ho0:Only (fun k=> k=M) w9 (wr.alloc (.cells #[.int .i64 pc, .int .i64 0, .int .i64 pa, .int .u64 was, .int .u64 0, .bool true] 59)):=Only.trans (F:=fun k=> k=M) hox (Only.of_below (F:=fun _=> False) ((Below.refl wr.heap.size wr).alloc (Nat.le_refl _) _)) (fun _ _ e=> e.elim)
        clear A0 A1 A2 A3 A4 A5 hMx hox
        generalize wr.alloc (.cells #[.int .i64 pc, .int .i64 0, .int .i64 pa, .int .u64 was, .int .u64 0, .bool true] 59)=X0 at *
        generalize wr.heap.size=N13 at *
        have B0:X0.cell? ⟨N13,0, .none⟩=some (.int .i64 pc):=tb.cell 0
        have B1:X0.cell? ⟨N13,1, .none⟩=some (.int .i64 0):=tb.cell 1
        have B2:X0.cell? ⟨N13,2, .none⟩=some (.int .i64 pa):=tb.cell 2
        have B3:X0.cell? ⟨N13,3, .none⟩=some (.int .u64 was):=tb.cell 3
        have B4:X0.cell? ⟨N13,4, .none⟩=some (.int .u64 0):=tb.cell 4
        have B5:X0.cell? ⟨N13,5, .none⟩=some (.bool true):=tb.cell 5
        have zM:X0.cell? ⟨M,pa.toNat, .none⟩=some (.int .u64 was):=by
         have h:=rowW_get (k:=pa.toNat) hM0 (by omega)
         rw [hwg] at h
         exact h
        have l13:=tb.lt
        have lMM:=hM0.lt
        have hge:¬ (N:Int)≤pa:=by omega
        have hlt0:¬ pa < 0:=by omega
        replace hwg:=Lib.hid hwg
        go_quiet (fail)
        have hMX:=hM0.drewN nq
        have hoX:Only (fun k=> k=M) w9 (X0.drewN nq):=Only.trans (F:=fun k=> k=M) ho0 (Only.of_below (F:=fun _=> False) (below_drewN (Below.refl _ _) nq)) (fun _ _ e=> e.elim)
        have tX:=tb.drewN nq
        clear B0 B1 B2 B3 B4 B5 zM l13 lMM
        generalize X0.drewN nq=X at *
        have B1:X.cell? ⟨N13,1, .none⟩=some (.int .i64 0):=tX.cell 1
        have B2:X.cell? ⟨N13,2, .none⟩=some (.int .i64 pa):=tX.cell 2
        have B4:X.cell? ⟨N13,4, .none⟩=some (.int .u64 0):=tX.cell 4
        have B5:X.cell? ⟨N13,5, .none⟩=some (.bool true):=tX.cell 5
        have zM:X.cell? ⟨M,pa.toNat, .none⟩=some (.int .u64 was):=by
         have h:=rowW_get (k:=pa.toNat) hMX (by omega)
         rw [hwg.out] at h
         exact h
        have fM:=rowFree hMX
        have l13:=tX.lt
        have lMM:=hMX.lt
        go_wp2_with fail
        exact ⟨⟨j + 1, .inr rfl,by go_num,by rw [if_neg (by omega),hw2.out];exact hMX,hoX⟩,by simp only [intOf];omega⟩
       ·rw [if_neg (by omega)] at hMx
        have hno:¬ ((n0 + 1:Nat):Int) < ((n0 + 1:Nat):Int):=by omega
        have hno2:¬ (n0:Int) + 1 < (n0:Int) + 1:=by omega
        have hzz:=Lib.hid (hz.out _ hMx hox)
        go_wp2_with fail
        exact ⟨hzz.out,by simp only [intOf];omega⟩
     | store pc pa px _=>
      have hpa:0≤pa∧pa < (N:Int):=by rw [← hli];assumption
      have hp0:=hpa.1
      have hp1:=hpa.2
      generalize hwg:ws.getD pa.toNat 0=was at *
      obtain ⟨ws2,hw2,hw2'⟩:∃ ws2,Hid (ws2=ws.set pa.toNat px)∧ws2=ws.set pa.toNat px:=⟨_,Lib.hid rfl,rfl⟩
      go_upto_region 19 with (first
       | (go_at_call 30;(with_reducible refine (hstD.out _ _ _ hx7.out).mono ?_);rintro r w9 ⟨hb9,ab,cap9,rfl,hc9,hm9,hab,habl,hA⟩)
       | fail)
      have hM9:=hM7.out.below hb9
      have hx9:=hx7.out.below hb9
      have hH9:H≤w9.heap.size:=by have:=hM9.lt;omega
      have hbr9:Below H W w9:=hbr7.trans (hb9.mono (by omega))
      have habM:ab≠M:=by omega
      have hz:=fun X (h1:RowAt X M (rowW ws2) 57) (h2:Only (fun k=> k=M) w9 X)=> hfin.out X _ _ (hx9.only h2 (fun j hj e=> hF7 (e ▸ hj))) hF7 (hw2' ▸ h1) (hbr9.trans (h2.below hH9 (fun k hk=> by omega)))
      replace hz:=Lib.hid hz
      clear hw2'
      replace hA:=Lib.hid hA
      have hn1:(n0:Int) < ((n0 + 1:Nat):Int):=by omega
      have hn2:(n0:Int) < (n0:Int) + 1:=by omega
      have wj:IntKind.i64.wrap ((n0:Int) + 1)=(n0:Int) + 1:=IntWalk.i64_in _ ⟨by omega,by omega⟩
      have hn00:(0:Int)≤(n0:Int):=by omega
      clear hb9 hx9 z0 z1 z2 z3 z4 z5 zl hbr7 hbr9
      go_wp2
      go_loopw [12] (fun v12 wx=> ∃ j:Nat,(j=n0∨j=n0 + 1)∧v12= .int .i64 (j:Int)∧RowAt wx M (rowW (if j=n0 then ws else ws2)) 57∧Only (fun k=> k=M) w9 wx) (fun v12 _=> n0 + 1 - (intOf v12).toNat)
      case atStart=> exact ⟨n0, .inl rfl,rfl,by rw [if_pos rfl];exact hM9,Only.refl _ _⟩
      case round=>
       obtain ⟨j,hj,rfl,hMx,hox⟩:=hrel
       have hsx:=hox.size
       rcases hj with rfl | rfl
       ·rw [if_pos rfl] at hMx
        have hA':∀ k,k < 6→wr.cell? ⟨ab,j * 6 + k, .none⟩= [Value.int .i64 pc,Value.int .i64 1,Value.int .i64 pa,Value.int .u64 was,Value.int .u64 px,Value.bool true][k]?:=fun k hk=> (blkCell (hox.block ab habl (by omega)) _).trans (hA.out k hk)
        have A0:wr.cell? ⟨ab,j * 6, .none⟩=some (.int .i64 pc):=hA' 0 (by omega)
        have A1:wr.cell? ⟨ab,j * 6 + 1, .none⟩=some (.int .i64 1):=hA' 1 (by omega)
        have A2:wr.cell? ⟨ab,j * 6 + 2, .none⟩=some (.int .i64 pa):=hA' 2 (by omega)
        have A3:wr.cell? ⟨ab,j * 6 + 3, .none⟩=some (.int .u64 was):=hA' 3 (by omega)
        have A4:wr.cell? ⟨ab,j * 6 + 4, .none⟩=some (.int .u64 px):=hA' 4 (by omega)
        have A5:wr.cell? ⟨ab,j * 6 + 5, .none⟩=some (.bool true):=hA' 5 (by omega)
        have lab:ab < wr.heap.size:=by omega
        clear hA'
        go_upto_region 23 with fail
        have tb:RowAt (wr.alloc (.cells #[.int .i64 pc, .int .i64 1, .int .i64 pa, .int .u64 was, .int .u64 px, .bool true] 59)) wr.heap.size #[.int .i64 pc, .int .i64 1, .int .i64 pa, .int .u64 was, .int .u64 px, .bool true] 59:=heap_alloc_new _ _
        have hM0:=hMx.alloc (.cells #[.int .i64 pc, .int .i64 1, .int .i64 pa, .int .u64 was, .int .u64 px, .bool true] 59)
        have ho0:Only (fun k=> k=M) w9 (wr.alloc (.cells #[.int .i64 pc, .int .i64 1, .int .i64 pa, .int .u64 was, .int .u64 px, .bool true] 59)):=Only.trans (F:=fun k=> k=M) hox (Only.of_below (F:=fun _=> False) ((Below.refl wr.heap.size wr).alloc (Nat.le_refl _) _)) (fun _ _ e=> e.elim)
        clear A0 A1 A2 A3 A4 A5 hMx hox
        generalize wr.alloc (.cells #[.int .i64 pc, .int .i64 1, .int .i64 pa, .int .u64 was, .int .u64 px, .bool true] 59)=X0 at *
        generalize wr.heap.size=N13 at *
        have B0:X0.cell? ⟨N13,0, .none⟩=some (.int .i64 pc):=tb.cell 0
        have B1:X0.cell? ⟨N13,1, .none⟩=some (.int .i64 1):=tb.cell 1
        have B2:X0.cell? ⟨N13,2, .none⟩=some (.int .i64 pa):=tb.cell 2
        have B3:X0.cell? ⟨N13,3, .none⟩=some (.int .u64 was):=tb.cell 3
        have B4:X0.cell? ⟨N13,4, .none⟩=some (.int .u64 px):=tb.cell 4
        have B5:X0.cell? ⟨N13,5, .none⟩=some (.bool true):=tb.cell 5
        have zM:X0.cell? ⟨M,pa.toNat, .none⟩=some (.int .u64 was):=by
         have h:=rowW_get (k:=pa.toNat) hM0 (by omega)
         rw [hwg] at h
         exact h
        have l13:=tb.lt
        have lMM:=hM0.lt
        have hge:¬ (N:Int)≤pa:=by omega
        have hlt0:¬ pa < 0:=by omega
        replace hwg:=Lib.hid hwg
        go_quiet (fail)
        have hMX:=hM0.drewN nq
        have hoX:Only (fun k=> k=M) w9 (X0.drewN nq):=Only.trans (F:=fun k=> k=M) ho0 (Only.of_below (F:=fun _=> False) (below_drewN (Below.refl _ _) nq)) (fun _ _ e=> e.elim)
        have tX:=tb.drewN nq
        clear B0 B1 B2 B3 B4 B5 zM l13 lMM
        generalize X0.drewN nq=X at *
        have B1:X.cell? ⟨N13,1, .none⟩=some (.int .i64 1):=tX.cell 1
        have B2:X.cell? ⟨N13,2, .none⟩=some (.int .i64 pa):=tX.cell 2
        have B4:X.cell? ⟨N13,4, .none⟩=some (.int .u64 px):=tX.cell 4
        have B5:X.cell? ⟨N13,5, .none⟩=some (.bool true):=tX.cell 5
        have zM:X.cell? ⟨M,pa.toNat, .none⟩=some (.int .u64 was):=by
         have h:=rowW_get (k:=pa.toNat) hMX (by omega)
         rw [hwg.out] at h
         exact h
        have fM:=rowFree hMX
        have l13:=tX.lt
        have lMM:=hMX.lt
        have hMs:RowAt (X.setCell ⟨M,pa.toNat, .none⟩ (.int .u64 px)) M (rowW (ws.set pa.toNat px)) 57:=by
         rw [← rowW_set]
         exact hMX.set pa.toNat _
        have hoS:Only (fun k=> k=M) w9 (X.setCell ⟨M,pa.toNat, .none⟩ (.int .u64 px)):=hoX.setCell (p:=⟨M,pa.toNat, .none⟩) (.inl rfl) _
        go_wp2_with fail
        exact ⟨⟨j + 1, .inr rfl,by go_num,by rw [if_neg (by omega),hw2.out];exact hMs,hoS⟩,by simp only [intOf];omega⟩
       ·rw [if_neg (by omega)] at hMx
        have hno:¬ ((n0 + 1:Nat):Int) < ((n0 + 1:Nat):Int):=by omega
        have hno2:¬ (n0:Int) + 1 < (n0:Int) + 1:=by omega
        have hzz:=Lib.hid (hz.out _ hMx hox)
        go_wp2_with fail
        exact ⟨hzz.out,by simp only [intOf];omega⟩
     | yes pc pa px _=>
      have hpa:0≤pa∧pa < (N:Int):=by rw [← hli];assumption
      have hp0:=hpa.1
      have hp1:=hpa.2
      generalize hwg:ws.getD pa.toNat 0=was at *
      obtain ⟨ws2,hw2,hw2'⟩:∃ ws2,Hid (ws2=ws.set pa.toNat px)∧ws2=ws.set pa.toNat px:=⟨_,Lib.hid rfl,rfl⟩
      go_upto_region 19 with (first
       | (go_at_call 30;(with_reducible refine (hstD.out _ _ _ hx7.out).mono ?_);rintro r w9 ⟨hb9,ab,cap9,rfl,hc9,hm9,hab,habl,hA⟩)
       | fail)
      have hM9:=hM7.out.below hb9
      have hx9:=hx7.out.below hb9
      have hH9:H≤w9.heap.size:=by have:=hM9.lt;omega
      have hbr9:Below H W w9:=hbr7.trans (hb9.mono (by omega))
      have habM:ab≠M:=by omega
      have hz:=fun X (h1:RowAt X M (rowW ws2) 57) (h2:Only (fun k=> k=M) w9 X)=> hfin.out X _ _ (hx9.only h2 (fun j hj e=> hF7 (e ▸ hj))) hF7 (hw2' ▸ h1) (hbr9.trans (h2.below hH9 (fun k hk=> by omega)))
      replace hz:=Lib.hid hz
      clear hw2'
      replace hA:=Lib.hid hA
      have hn1:(n0:Int) < ((n0 + 1:Nat):Int):=by omega
      have hn2:(n0:Int) < (n0:Int) + 1:=by omega
      have wj:IntKind.i64.wrap ((n0:Int) + 1)=(n0:Int) + 1:=IntWalk.i64_in _ ⟨by omega,by omega⟩
      have hn00:(0:Int)≤(n0:Int):=by omega
      clear hb9 hx9 z0 z1 z2 z3 z4 z5 zl hbr7 hbr9
      go_wp2
      go_loopw [12] (fun v12 wx=> ∃ j:Nat,(j=n0∨j=n0 + 1)∧v12= .int .i64 (j:Int)∧RowAt wx M (rowW (if j=n0 then ws else ws2)) 57∧Only (fun k=> k=M) w9 wx) (fun v12 _=> n0 + 1 - (intOf v12).toNat)
      case atStart=> exact ⟨n0, .inl rfl,rfl,by rw [if_pos rfl];exact hM9,Only.refl _ _⟩
      case round=>
       obtain ⟨j,hj,rfl,hMx,hox⟩:=hrel
       have hsx:=hox.size
       rcases hj with rfl | rfl
       ·rw [if_pos rfl] at hMx
        have hA':∀ k,k < 6→wr.cell? ⟨ab,j * 6 + k, .none⟩= [Value.int .i64 pc,Value.int .i64 2,Value.int .i64 pa,Value.int .u64 was,Value.int .u64 px,Value.bool true][k]?:=fun k hk=> (blkCell (hox.block ab habl (by omega)) _).trans (hA.out k hk)
        have A0:wr.cell? ⟨ab,j * 6, .none⟩=some (.int .i64 pc):=hA' 0 (by omega)
        have A1:wr.cell? ⟨ab,j * 6 + 1, .none⟩=some (.int .i64 2):=hA' 1 (by omega)
        have A2:wr.cell? ⟨ab,j * 6 + 2, .none⟩=some (.int .i64 pa):=hA' 2 (by omega)
        have A3:wr.cell? ⟨ab,j * 6 + 3, .none⟩=some (.int .u64 was):=hA' 3 (by omega)
        have A4:wr.cell? ⟨ab,j * 6 + 4, .none⟩=some (.int .u64 px):=hA' 4 (by omega)
        have A5:wr.cell? ⟨ab,j * 6 + 5, .none⟩=some (.bool true):=hA' 5 (by omega)
        have lab:ab < wr.heap.size:=by omega
        clear hA'
        go_upto_region 23 with fail
        have tb:RowAt (wr.alloc (.cells #[.int .i64 pc, .int .i64 2, .int .i64 pa, .int .u64 was, .int .u64 px, .bool true] 59)) wr.heap.size #[.int .i64 pc, .int .i64 2, .int .i64 pa, .int .u64 was, .int .u64 px, .bool true] 59:=heap_alloc_new _ _
        have hM0:=hMx.alloc (.cells #[.int .i64 pc, .int .i64 2, .int .i64 pa, .int .u64 was, .int .u64 px, .bool true] 59)
        have ho0:Only (fun k=> k=M) w9 (wr.alloc (.cells #[.int .i64 pc, .int .i64 2, .int .i64 pa, .int .u64 was, .int .u64 px, .bool true] 59)):=Only.trans (F:=fun k=> k=M) hox (Only.of_below (F:=fun _=> False) ((Below.refl wr.heap.size wr).alloc (Nat.le_refl _) _)) (fun _ _ e=> e.elim)
        clear A0 A1 A2 A3 A4 A5 hMx hox
        generalize wr.alloc (.cells #[.int .i64 pc, .int .i64 2, .int .i64 pa, .int .u64 was, .int .u64 px, .bool true] 59)=X0 at *
        generalize wr.heap.size=N13 at *
        have B0:X0.cell? ⟨N13,0, .none⟩=some (.int .i64 pc):=tb.cell 0
        have B1:X0.cell? ⟨N13,1, .none⟩=some (.int .i64 2):=tb.cell 1
        have B2:X0.cell? ⟨N13,2, .none⟩=some (.int .i64 pa):=tb.cell 2
        have B3:X0.cell? ⟨N13,3, .none⟩=some (.int .u64 was):=tb.cell 3
        have B4:X0.cell? ⟨N13,4, .none⟩=some (.int .u64 px):=tb.cell 4
        have B5:X0.cell? ⟨N13,5, .none⟩=some (.bool true):=tb.cell 5
        have zM:X0.cell? ⟨M,pa.toNat, .none⟩=some (.int .u64 was):=by
         have h:=rowW_get (k:=pa.toNat) hM0 (by omega)
         rw [hwg] at h
         exact h
        have l13:=tb.lt
        have lMM:=hM0.lt
        have hge:¬ (N:Int)≤pa:=by omega
        have hlt0:¬ pa < 0:=by omega
        replace hwg:=Lib.hid hwg
        go_quiet (fail)
        have hMX:=hM0.drewN nq
        have hoX:Only (fun k=> k=M) w9 (X0.drewN nq):=Only.trans (F:=fun k=> k=M) ho0 (Only.of_below (F:=fun _=> False) (below_drewN (Below.refl _ _) nq)) (fun _ _ e=> e.elim)
        have tX:=tb.drewN nq
        clear B0 B1 B2 B3 B4 B5 zM l13 lMM
        generalize X0.drewN nq=X at *
        have B1:X.cell? ⟨N13,1, .none⟩=some (.int .i64 2):=tX.cell 1
        have B2:X.cell? ⟨N13,2, .none⟩=some (.int .i64 pa):=tX.cell 2
        have B4:X.cell? ⟨N13,4, .none⟩=some (.int .u64 px):=tX.cell 4
        have B5:X.cell? ⟨N13,5, .none⟩=some (.bool true):=tX.cell 5
        have zM:X.cell? ⟨M,pa.toNat, .none⟩=some (.int .u64 was):=by
         have h:=rowW_get (k:=pa.toNat) hMX (by omega)
         rw [hwg.out] at h
         exact h
        have fM:=rowFree hMX
        have l13:=tX.lt
        have lMM:=hMX.lt
        have hMs:RowAt (X.setCell ⟨M,pa.toNat, .none⟩ (.int .u64 px)) M (rowW (ws.set pa.toNat px)) 57:=by
         rw [← rowW_set]
         exact hMX.set pa.toNat _
        have hoS:Only (fun k=> k=M) w9 (X.setCell ⟨M,pa.toNat, .none⟩ (.int .u64 px)):=hoX.setCell (p:=⟨M,pa.toNat, .none⟩) (.inl rfl) _
        go_wp2_with fail
        exact ⟨⟨j + 1, .inr rfl,by go_num,by rw [if_neg (by omega),hw2.out];exact hMs,hoS⟩,by simp only [intOf];omega⟩
       ·rw [if_neg (by omega)] at hMx
        have hno:¬ ((n0 + 1:Nat):Int) < ((n0 + 1:Nat):Int):=by omega
        have hno2:¬ (n0:Int) + 1 < (n0:Int) + 1:=by omega
        have hzz:=Lib.hid (hz.out _ hMx hox)
        go_wp2_with fail
        exact ⟨hzz.out,by simp only [intOf];omega⟩
     | no pc pa px _=>
      have hpa:0≤pa∧pa < (N:Int):=by rw [← hli];assumption
      have hp0:=hpa.1
      have hp1:=hpa.2
      generalize hwg:ws.getD pa.toNat 0=was at *
      obtain ⟨ws2,hw2,hw2'⟩:∃ ws2,Hid (ws2=ws)∧ws2=ws:=⟨_,Lib.hid rfl,rfl⟩
      go_upto_region 19 with (first
       | (go_at_call 30;(with_reducible refine (hstD.out _ _ _ hx7.out).mono ?_);rintro r w9 ⟨hb9,ab,cap9,rfl,hc9,hm9,hab,habl,hA⟩)
       | fail)
      have hM9:=hM7.out.below hb9
      have hx9:=hx7.out.below hb9
      have hH9:H≤w9.heap.size:=by have:=hM9.lt;omega
      have hbr9:Below H W w9:=hbr7.trans (hb9.mono (by omega))
      have habM:ab≠M:=by omega
      have hz:=fun X (h1:RowAt X M (rowW ws2) 57) (h2:Only (fun k=> k=M) w9 X)=> hfin.out X _ _ (hx9.only h2 (fun j hj e=> hF7 (e ▸ hj))) hF7 (hw2' ▸ h1) (hbr9.trans (h2.below hH9 (fun k hk=> by omega)))
      replace hz:=Lib.hid hz
      clear hw2'
      replace hA:=Lib.hid hA
      have hn1:(n0:Int) < ((n0 + 1:Nat):Int):=by omega
      have hn2:(n0:Int) < (n0:Int) + 1:=by omega
      have wj:IntKind.i64.wrap ((n0:Int) + 1)=(n0:Int) + 1:=IntWalk.i64_in _ ⟨by omega,by omega⟩
      have hn00:(0:Int)≤(n0:Int):=by omega
      clear hb9 hx9 z0 z1 z2 z3 z4 z5 zl hbr7 hbr9
      go_wp2
      go_loopw [12] (fun v12 wx=> ∃ j:Nat,(j=n0∨j=n0 + 1)∧v12= .int .i64 (j:Int)∧RowAt wx M (rowW (if j=n0 then ws else ws2)) 57∧Only (fun k=> k=M) w9 wx) (fun v12 _=> n0 + 1 - (intOf v12).toNat)
      case atStart=> exact ⟨n0, .inl rfl,rfl,by rw [if_pos rfl];exact hM9,Only.refl _ _⟩
      case round=>
       obtain ⟨j,hj,rfl,hMx,hox⟩:=hrel
       have hsx:=hox.size
       rcases hj with rfl | rfl
       ·rw [if_pos rfl] at hMx
        have hA':∀ k,k < 6→wr.cell? ⟨ab,j * 6 + k, .none⟩= [Value.int .i64 pc,Value.int .i64 2,Value.int .i64 pa,Value.int .u64 was,Value.int .u64 px,Value.bool false][k]?:=fun k hk=> (blkCell (hox.block ab habl (by omega)) _).trans (hA.out k hk)
        have A0:wr.cell? ⟨ab,j * 6, .none⟩=some (.int .i64 pc):=hA' 0 (by omega)
        have A1:wr.cell? ⟨ab,j * 6 + 1, .none⟩=some (.int .i64 2):=hA' 1 (by omega)
        have A2:wr.cell? ⟨ab,j * 6 + 2, .none⟩=some (.int .i64 pa):=hA' 2 (by omega)
        have A3:wr.cell? ⟨ab,j * 6 + 3, .none⟩=some (.int .u64 was):=hA' 3 (by omega)
        have A4:wr.cell? ⟨ab,j * 6 + 4, .none⟩=some (.int .u64 px):=hA' 4 (by omega)
        have A5:wr.cell? ⟨ab,j * 6 + 5, .none⟩=some (.bool false):=hA' 5 (by omega)
        have lab:ab < wr.heap.size:=by omega
        clear hA'
        go_upto_region 23 with fail
        have tb:RowAt (wr.alloc (.cells #[.int .i64 pc, .int .i64 2, .int .i64 pa, .int .u64 was, .int .u64 px, .bool false] 59)) wr.heap.size #[.int .i64 pc, .int .i64 2, .int .i64 pa, .int .u64 was, .int .u64 px, .bool false] 59:=heap_alloc_new _ _
        have hM0:=hMx.alloc (.cells #[.int .i64 pc, .int .i64 2, .int .i64 pa, .int .u64 was, .int .u64 px, .bool false] 59)
        have ho0:Only (fun k=> k=M) w9 (wr.alloc (.cells #[.int .i64 pc, .int .i64 2, .int .i64 pa, .int .u64 was, .int .u64 px, .bool false] 59)):=Only.trans (F:=fun k=> k=M) hox (Only.of_below (F:=fun _=> False) ((Below.refl wr.heap.size wr).alloc (Nat.le_refl _) _)) (fun _ _ e=> e.elim)
        clear A0 A1 A2 A3 A4 A5 hMx hox
        generalize wr.alloc (.cells #[.int .i64 pc, .int .i64 2, .int .i64 pa, .int .u64 was, .int .u64 px, .bool false] 59)=X0 at *
        generalize wr.heap.size=N13 at *
        have B0:X0.cell? ⟨N13,0, .none⟩=some (.int .i64 pc):=tb.cell 0
        have B1:X0.cell? ⟨N13,1, .none⟩=some (.int .i64 2):=tb.cell 1
        have B2:X0.cell? ⟨N13,2, .none⟩=some (.int .i64 pa):=tb.cell 2
        have B3:X0.cell? ⟨N13,3, .none⟩=some (.int .u64 was):=tb.cell 3
        have B4:X0.cell? ⟨N13,4, .none⟩=some (.int .u64 px):=tb.cell 4
        have B5:X0.cell? ⟨N13,5, .none⟩=some (.bool false):=tb.cell 5
        have zM:X0.cell? ⟨M,pa.toNat, .none⟩=some (.int .u64 was):=by
         have h:=rowW_get (k:=pa.toNat) hM0 (by omega)
         rw [hwg] at h
         exact h
        have l13:=tb.lt
        have lMM:=hM0.lt
        have hge:¬ (N:Int)≤pa:=by omega
        have hlt0:¬ pa < 0:=by omega
        replace hwg:=Lib.hid hwg
        go_quiet (fail)
        have hMX:=hM0.drewN nq
        have hoX:Only (fun k=> k=M) w9 (X0.drewN nq):=Only.trans (F:=fun k=> k=M) ho0 (Only.of_below (F:=fun _=> False) (below_drewN (Below.refl _ _) nq)) (fun _ _ e=> e.elim)
        have tX:=tb.drewN nq
        clear B0 B1 B2 B3 B4 B5 zM l13 lMM
        generalize X0.drewN nq=X at *
        have B1:X.cell? ⟨N13,1, .none⟩=some (.int .i64 2):=tX.cell 1
        have B2:X.cell? ⟨N13,2, .none⟩=some (.int .i64 pa):=tX.cell 2
        have B4:X.cell? ⟨N13,4, .none⟩=some (.int .u64 px):=tX.cell 4
        have B5:X.cell? ⟨N13,5, .none⟩=some (.bool false):=tX.cell 5
        have zM:X.cell? ⟨M,pa.toNat, .none⟩=some (.int .u64 was):=by
         have h:=rowW_get (k:=pa.toNat) hMX (by omega)
         rw [hwg.out] at h
         exact h
        have fM:=rowFree hMX
        have l13:=tX.lt
        have lMM:=hMX.lt
        go_wp2_with fail
        exact ⟨⟨j + 1, .inr rfl,by go_num,by rw [if_neg (by omega),hw2.out];exact hMX,hoX⟩,by simp only [intOf];omega⟩
       ·rw [if_neg (by omega)] at hMx
        have hno:¬ ((n0 + 1:Nat):Int) < ((n0 + 1:Nat):Int):=by omega
        have hno2:¬ (n0:Int) + 1 < (n0:Int) + 1:=by omega
        have hzz:=Lib.hid (hz.out _ hMx hox)
        go_wp2_with fail
        exact ⟨hzz.out,by simp only [intOf];omega⟩
  ·obtain rfl:i=n:=by omega
   have hno:¬ (i:Int) < (i:Int):=by omega
   generalize (wdNew s).acts s (xs.take i)=d at *
   have hww:=Lib.hid (wwords_any hx)
   have hH9:H≤wr.heap.size:=by have:=hM.lt;omega
   have hsame:=fun u X (h1:RdZ .u64 X (.slice (some ⟨M,0, .none⟩) N N) d.m.ws) (h2:RdZ .u64 X u d.m.ws)=> sameWords_eq d.m.ws (.slice (some ⟨M,0, .none⟩) N N) u X h1 h2
   have hrd:∀ X,RowAt X M (rowW d.m.ws) 57→RdZ .u64 X (.slice (some ⟨M,0, .none⟩) N N) d.m.ws:=fun X h=> by
    have h2:=RdS.new (sz:=1) (n:=N) h (by simp [rowW,hli]) (by omega)
    unfold RdZ
    rw [hli]
    simpa [rowW] using h2
   replace hsame:=Lib.hid hsame
   replace hrd:=Lib.hid hrd
   clear hoki
   go_wp2_with (first
    | (go_at_call 35;(with_reducible refine hww.out.mono ?_);rintro r w5 ⟨v5,rfl,hb5,ho5⟩;have hrr:=hrd.out _ (hM.below hb5);have hru:RdZ .u64 w5 v5 d.m.ws:=RdS.of_own ho5)
    | (go_at_call 34;(with_reducible refine (hsame.out _ _ hrr hru).mono ?_);rintro r w6 ⟨rfl,hb6⟩)
    | fail)
   go_returns
   have hs5:=hb5.size
   exact ⟨rfl,by rw [← hH.out];exact (hbr.trans (hb5.mono hH9)).trans (hb6.mono (by omega))⟩
end Go.Proofs.YtampacmmhhilaaaGreat

/- The Claimer of pages, the Stripper, the Binder in memory. -/
import Derived.Test.YtampacmmhhilaaaGreatBm9

set_option linter.all false
namespace Go.Proofs.YtampacmmhhilaaaGreat

open Go.RowKit

attribute [local go_sem ↓] Go.wp_at_zero Go.wp_at_succ

def spCells (s:Sh) (t:Sp):Array Value:= #[.int .i64 s.p, .int .i64 s.c, .int .i64 s.m, .int .i64 t.c, .int .i64 t.page, .int .i64 t.k, .int .i64 t.i, .bool t.back, .bool t.held, .bool t.done]
set_option maxHeartbeats 1000000 in
theorem spnew_any (s:Sh) (c pg k:Int) (w:World):
  Calls Tryz.prog 264 #[.agg #[.int .i64 s.p, .int .i64 s.c, .int .i64 s.m], .int .i64 c, .int .i64 pg, .int .i64 k] w fun e w'=> Born w w' e (spCells s (spNew s c pg k)) 328:=by
 have hcStatus:=fun W=> planStatus_any s.p s.c s.m c W
 have hcPage:=fun W=> planPage_any s.p s.c s.m pg W
 have hcSlots:=fun W=> slots_any k W
 have hn:spCells s (spNew s c pg k)= #[.int .i64 s.p, .int .i64 s.c, .int .i64 s.m, .int .i64 c, .int .i64 pg, .int .i64 k, .int .i64 0, .bool false, .bool false, .bool (!(decide (0≤statusIx s.p s.c s.m c) && decide (0≤pageIx s.p s.c s.m pg) && decide (0 < slotsV k)))]:=rfl
 rw [hn]
 clear hn
 generalize statusIx s.p s.c s.m c=sx at *
 generalize pageIx s.p s.c s.m pg=px at *
 generalize slotsV k=sv at *
 obtain ⟨sp,sc,sm⟩:=s
 dsimp only at hcStatus hcPage ⊢
 replace hcStatus:=Lib.hid hcStatus
 replace hcPage:=Lib.hid hcPage
 replace hcSlots:=Lib.hid hcSlots
 have hcs:(sx < 0)∨(0≤sx∧px < 0)∨(0≤sx∧0≤px∧sv≤0)∨(0≤sx∧0≤px∧0 < sv):=by omega
 have hb0:=(Below.refl w.heap.size w).alloc (Nat.le_refl _) (.cells #[.int .i64 sp, .int .i64 sc, .int .i64 sm] 23)
 have t0:=heap_alloc_new w (.cells #[.int .i64 sp, .int .i64 sc, .int .i64 sm] 23)
 go_enter Tryz.func264,Tryz.ntmps264
 go_upto_region 1 with fail
 generalize w.alloc (.cells #[.int .i64 sp, .int .i64 sc, .int .i64 sm] 23)=W at *
 obtain ⟨H,hH,hH'⟩:∃ H,Hid (H=w.heap.size)∧H=w.heap.size:=⟨_,Lib.hid rfl,rfl⟩
 rw [← hH'] at t0 ⊢
 have lH:H < W.heap.size:=(Array.getElem?_eq_some_iff.1 t0).1
 have c0:W.cell? ⟨H,0, .none⟩=some (.int .i64 sp):=rowCells t0 0
 have c1:W.cell? ⟨H,1, .none⟩=some (.int .i64 sc):=rowCells t0 1
 have c2:W.cell? ⟨H,2, .none⟩=some (.int .i64 sm):=rowCells t0 2
 clear hH' t0
 rcases hcs with h1 | ⟨h1,h2⟩ | ⟨h1,h2,h3⟩ | ⟨h1,h2,h3⟩
 all_goals
  go_wp2_with (first | (go_at_call 67;(with_reducible refine (hcStatus.out _).mono ?_);rintro r w1 ⟨rfl,hb1⟩;have d0:=keepF hb1 _ _ _ c0;have d1:=keepF hb1 _ _ _ c1;have d2:=keepF hb1 _ _ _ c2) | (go_at_call 136;(with_reducible refine (hcPage.out _).mono ?_);rintro r w2 ⟨rfl,hb2⟩;have k0:=keepF hb2 _ _ _ d0;have k1:=keepF hb2 _ _ _ d1;have k2:=keepF hb2 _ _ _ d2) | (go_at_call 97;(with_reducible refine (hcSlots.out _).mono ?_);rintro r w3 ⟨rfl,rfl⟩) | fail)
  go_returns
 ·exact born_alloc hb0 hb1 (by simp [Int.not_le.2 h1])
 ·exact born_alloc hb0 (belowTrans hb1 hb2) (by simp [h1,Int.not_le.2 h2])
 ·exact born_alloc hb0 (belowTrans hb1 hb2) (by simp [h1,h2,Int.not_lt.2 h3])
 ·exact born_alloc hb0 (belowTrans hb1 hb2) (by simp [h1,h2,h3])
def bnCells (s:Sh) (t:Bn):Array Value:= #[.int .i64 s.p, .int .i64 s.c, .int .i64 s.m, .int .i64 t.c, .int .i64 t.page, .int .i64 t.k, .int .i64 t.i, .bool t.bound, .bool t.done]
set_option maxHeartbeats 1000000 in
theorem bnnew_any (s:Sh) (c pg k:Int) (w:World):
  Calls Tryz.prog 229 #[.agg #[.int .i64 s.p, .int .i64 s.c, .int .i64 s.m], .int .i64 c, .int .i64 pg, .int .i64 k] w fun e w'=> Born w w' e (bnCells s (bnNew s c pg k)) 331:=by
 have hcStatus:=fun W=> planStatus_any s.p s.c s.m c W
 have hcPage:=fun W=> planPage_any s.p s.c s.m pg W
 have hcSlots:=fun W=> slots_any k W
 have hn:bnCells s (bnNew s c pg k)= #[.int .i64 s.p, .int .i64 s.c, .int .i64 s.m, .int .i64 c, .int .i64 pg, .int .i64 k, .int .i64 0, .bool false, .bool (!(decide (0≤statusIx s.p s.c s.m c) && decide (0≤pageIx s.p s.c s.m pg) && decide (0 < slotsV k)))]:=rfl
 rw [hn]
 clear hn
 generalize statusIx s.p s.c s.m c=sx at *
 generalize pageIx s.p s.c s.m pg=px at *
 generalize slotsV k=sv at *
 obtain ⟨sp,sc,sm⟩:=s
 dsimp only at hcStatus hcPage ⊢
 replace hcStatus:=Lib.hid hcStatus
 replace hcPage:=Lib.hid hcPage
 replace hcSlots:=Lib.hid hcSlots
 have hcs:(sx < 0)∨(0≤sx∧px < 0)∨(0≤sx∧0≤px∧sv≤0)∨(0≤sx∧0≤px∧0 < sv):=by omega
 have hb0:=(Below.refl w.heap.size w).alloc (Nat.le_refl _) (.cells #[.int .i64 sp, .int .i64 sc, .int .i64 sm] 23)
 have t0:=heap_alloc_new w (.cells #[.int .i64 sp, .int .i64 sc, .int .i64 sm] 23)
 go_enter Tryz.func229,Tryz.ntmps229
 go_upto_region 1 with fail
 generalize w.alloc (.cells #[.int .i64 sp, .int .i64 sc, .int .i64 sm] 23)=W at *
 obtain ⟨H,hH,hH'⟩:∃ H,Hid (H=w.heap.size)∧H=w.heap.size:=⟨_,Lib.hid rfl,rfl⟩
 rw [← hH'] at t0 ⊢
 have lH:H < W.heap.size:=(Array.getElem?_eq_some_iff.1 t0).1
 have c0:W.cell? ⟨H,0, .none⟩=some (.int .i64 sp):=rowCells t0 0
 have c1:W.cell? ⟨H,1, .none⟩=some (.int .i64 sc):=rowCells t0 1
 have c2:W.cell? ⟨H,2, .none⟩=some (.int .i64 sm):=rowCells t0 2
 clear hH' t0
 rcases hcs with h1 | ⟨h1,h2⟩ | ⟨h1,h2,h3⟩ | ⟨h1,h2,h3⟩
 all_goals
  go_wp2_with (first | (go_at_call 67;(with_reducible refine (hcStatus.out _).mono ?_);rintro r w1 ⟨rfl,hb1⟩;have d0:=keepF hb1 _ _ _ c0;have d1:=keepF hb1 _ _ _ c1;have d2:=keepF hb1 _ _ _ c2) | (go_at_call 136;(with_reducible refine (hcPage.out _).mono ?_);rintro r w2 ⟨rfl,hb2⟩;have k0:=keepF hb2 _ _ _ d0;have k1:=keepF hb2 _ _ _ d1;have k2:=keepF hb2 _ _ _ d2) | (go_at_call 97;(with_reducible refine (hcSlots.out _).mono ?_);rintro r w3 ⟨rfl,rfl⟩) | fail)
  go_returns
 ·exact born_alloc hb0 hb1 (by simp [Int.not_le.2 h1])
 ·exact born_alloc hb0 (belowTrans hb1 hb2) (by simp [h1,Int.not_le.2 h2])
 ·exact born_alloc hb0 (belowTrans hb1 hb2) (by simp [h1,h2,Int.not_lt.2 h3])
 ·exact born_alloc hb0 (belowTrans hb1 hb2) (by simp [h1,h2,h3])
def pcCells (s:Sh) (t:Pc):Array Value:= #[.int .i64 s.p, .int .i64 s.c, .int .i64 s.m, .int .i64 t.c, .int .i64 t.first, .int .i64 t.many, .bool t.empty, .bool t.found, .bool t.done]
set_option maxHeartbeats 1000000 in
theorem pcnew_any (s:Sh) (c f:Int) (w:World):
  Calls Tryz.prog 220 #[.agg #[.int .i64 s.p, .int .i64 s.c, .int .i64 s.m], .int .i64 c, .int .i64 f] w fun e w'=> Born w w' e (pcCells s (pcNew s c f)) 325:=by
 have hg:=fun W=> planStatus_any s.p s.c s.m c W
 have hp:=fun W=> planPage_any s.p s.c s.m f W
 have hn:pcCells s (pcNew s c f)= #[.int .i64 s.p, .int .i64 s.c, .int .i64 s.m, .int .i64 c, .int .i64 f, .int .i64 0, .bool false, .bool false, .bool (decide (statusIx s.p s.c s.m c < 0) || decide (pageIx s.p s.c s.m f < 0))]:=rfl
 rw [hn]
 clear hn
 generalize statusIx s.p s.c s.m c=sx at *
 generalize pageIx s.p s.c s.m f=px at *
 obtain ⟨sp,sc,sm⟩:=s
 dsimp only at hg hp ⊢
 replace hg:=Lib.hid hg
 replace hp:=Lib.hid hp
 have hb0:=(Below.refl w.heap.size w).alloc (Nat.le_refl _) (.cells #[.int .i64 sp, .int .i64 sc, .int .i64 sm] 23)
 have t0:=heap_alloc_new w (.cells #[.int .i64 sp, .int .i64 sc, .int .i64 sm] 23)
 go_enter Tryz.func220,Tryz.ntmps220
 go_upto_region 1 with fail
 generalize w.alloc (.cells #[.int .i64 sp, .int .i64 sc, .int .i64 sm] 23)=W at *
 obtain ⟨H,hH,hH'⟩:∃ H,Hid (H=w.heap.size)∧H=w.heap.size:=⟨_,Lib.hid rfl,rfl⟩
 rw [← hH'] at t0 ⊢
 have lH:H < W.heap.size:=(Array.getElem?_eq_some_iff.1 t0).1
 have c0:W.cell? ⟨H,0, .none⟩=some (.int .i64 sp):=rowCells t0 0
 have c1:W.cell? ⟨H,1, .none⟩=some (.int .i64 sc):=rowCells t0 1
 have c2:W.cell? ⟨H,2, .none⟩=some (.int .i64 sm):=rowCells t0 2
 clear hH' t0
 rcases (by omega:sx < 0∨(¬ sx < 0∧px < 0)∨(¬ sx < 0∧¬ px < 0)) with h1 | ⟨h1,h2⟩ | ⟨h1,h2⟩
 all_goals
  try have q1:=decide_eq_false h1
  refine wp_region_ext_tail 14 (by kernel_rfl) (by kernel_rfl) ?_
  dsimp only [List.take,List.drop]
  repeat (go_big_quiet_step ((first | (go_at_call 67;exact ext_of (hg.out _)) | (go_at_call 136;exact ext_of (hp.out _)) | fail)))
  refine wpQuiet_nil ?_
  rintro _ ⟨e',rfl⟩
  have hbe:=e'.below
  generalize e'.w=X at *
  change wpList _ _ _ _ _ X
  go_wp2_with fail
  go_returns
 ·exact born_alloc hb0 hbe (by simp [h1])
 ·exact born_alloc hb0 hbe (by simp [h1,h2])
 ·exact born_alloc hb0 hbe (by simp [h1,h2])
set_option maxHeartbeats 1000000 in
theorem pcpage_any (q:Nat) (s:Sh) (t:Pc) (w:World) (hq:RowAt w q (pcCells s t) 325) (hp:1≤s.p∧s.p≤64) (h1:0≤t.first∧t.first < 64) (h2:0≤t.many∧t.many≤64):
  Calls Tryz.prog 228 #[.pointer (some ⟨q,0, .none⟩)] w fun e w'=> e= .returned (.int .i64 (t.page s))∧Below w.heap.size w w':=by
 unfold Pc.page
 obtain ⟨sp,sc,sm⟩:=s
 obtain ⟨tc,tf,tm,tempty,tfound,tdone⟩:=t
 dsimp only at hp h1 h2 ⊢
 have lq:=hq.lt
 have c0:w.cell? ⟨q,0, .none⟩=some (.int .i64 sp):=hq.cell 0
 have c4:w.cell? ⟨q,4, .none⟩=some (.int .i64 tf):=hq.cell 4
 have c5:w.cell? ⟨q,5, .none⟩=some (.int .i64 tm):=hq.cell 5
 obtain ⟨p1,p2⟩:=hp
 obtain ⟨f1,f2⟩:=h1
 obtain ⟨m1,m2⟩:=h2
 have w1:IntKind.i64.wrap (tf + tm)=tf + tm:=IntWalk.i64_in _ ⟨by omega,by omega⟩
 have w2:(tf + tm).tmod sp=(tf + tm) % sp:=Int.tmod_eq_emod_of_nonneg (by omega)
 have w4:(sp==0)=false:=by simp;omega
 have w3:IntKind.i64.wrap ((tf + tm) % sp)=(tf + tm) % sp:=by
  have b1:=Int.emod_nonneg (tf + tm) (by omega:sp≠0)
  have b2:=Int.emod_lt_of_pos (tf + tm) (by omega:0 < sp)
  exact IntWalk.i64_in _ ⟨by omega,by omega⟩
 go_enter Tryz.func228,Tryz.ntmps228
 go_wp2_with fail
 go_quiet (fail)
 have hb:=below_drewN (Below.refl w.heap.size w) nq
 go_wp2_with fail
 go_returns
 exact ⟨rfl,hb⟩
set_option maxRecDepth 100000 in
set_option maxHeartbeats 2000000 in
theorem pcstep_any (q p b:Nat) (s:Sh) (t:Pc) (m:Mem) (w:World) (hq:RowAt w q (pcCells s t) 325) (hw:WdsAt w p b m) (hqp:q≠p) (hqb:q≠b) (hf:Fits s m) (ho:pcOk s t) (hs:m.st < 1000000000):
  Calls Tryz.prog 318 #[.pointer (some ⟨q,0, .none⟩), .pointer (some ⟨p,0, .none⟩)] w fun e w'=> Stepped q p b w w' e (pcCells s (pcStep s t m).1) 325 (pcStep s t m).2:=by
 have h0:=At3.start hq hw hqp hqb
 clear hq hw
 rcases Bool.eq_false_or_eq_true t.done with hd | hd
 ·have hr:pcStep s t m=(t,m):=by unfold pcStep;rw [if_pos hd]
  rw [hr]
  clear hr
  have c8:w.cell? ⟨q,8, .none⟩=some (.bool true):=by rw [← hd];exact h0.cell 8
  clear ho hd hf
  go_enter Tryz.func318,Tryz.ntmps318
  go_wp2_with fail
  go_returns
  exact h0.fin rfl rfl
 obtain ⟨hc,hfi,hmn⟩:=ho.cl hd
 have hbd:=hf.bd
 have hpg:0≤t.page s∧t.page s < s.p:=⟨Int.emod_nonneg _ (by omega),Int.emod_lt_of_pos _ (by omega)⟩
 obtain ⟨hpx,hph⟩:=hf.page hpg
 have hcpg:=fun Y (hY:RowAt Y q (pcCells s t) 325)=> pcpage_any q s t Y hY (by omega) (by omega) (by omega)
 have hcpp:=fun Y=> planPage_any s.p s.c s.m (t.page s) Y
 have hcph:=fun Y=> putPage_any 1 t.c 0 Y
 rw [hpx] at hcpp
 obtain ⟨r,hr⟩:∃ r,r=pcStep s t m:=⟨_,rfl⟩
 rw [← hr]
 unfold pcStep at hr
 rw [if_neg (by rw [hd];decide)] at hr
 dsimp only at hr
 rw [hpx] at hr
 have hlp:=fun Y (hY:WdsAt Y p b m)=> wload_any p b m t.c (s.c + t.page s) Y hY hph hs
 have hsw:=fun Y (hY:WdsAt Y p b m)=> wswap_any p b m t.c (s.c + t.page s) 0 (heldW t.c) Y hY hph (pageV_u64 _ _ _) hs
 generalize s.c + t.page s=pa at hlp hsw hcpp hr
 generalize hpgq:t.page s=pg at hcpg hcpp
 have w1:IntKind.i64.wrap (t.many + 1)=t.many + 1:=IntWalk.i64_in _ ⟨by omega,by omega⟩
 clear hpgq hph hpx hpg ho hf hmn hfi hc hbd
 have hhw:Hid (heldW t.c=pageV 1 t.c 0):=Lib.hid rfl
 rw [← hhw.out] at hcph
 clear hhw
 generalize heldW t.c=hw at hcph hsw hr
 have hcs:m.get pa=0∨(¬ m.get pa=0∧(m.get pa==0)=false∧decide (m.get pa=0)=false):=by
  by_cases h:m.get pa=0
  ·exact .inl h
  ·exact .inr ⟨h,by simpa using h,decide_eq_false h⟩
 rcases Bool.eq_false_or_eq_true t.empty with hem | hem
 ·rw [if_neg (by rw [hem];decide)] at hr
  obtain ⟨t2,ht2,ht2'⟩:∃ t2:Pc,Hid (t2=if m.get pa=0 then { t with found:=true,done:=true } else { t with empty:=false,many:=t.many + 1,done:=decide (t.many + 1=s.p) })∧t2=_:=⟨_,Lib.hid rfl,rfl⟩
  rw [← ht2'] at hr
  clear ht2' hlp
  subst hr
  obtain ⟨g,hg⟩:∃ g,g=decide (m.get pa=0):=⟨_,rfl⟩
  rw [← hg] at hsw hcs
  replace hcs:(m.get pa=0∧g=true)∨(¬ m.get pa=0∧g=false):=hcs.elim (fun h=> .inl ⟨h,by rw [hg,decide_eq_true h]⟩) (fun h=> .inr ⟨h.1,h.2.2⟩)
  clear hg
  obtain ⟨tc,tf,tm,tempty,tfound,tdone⟩:=t
  obtain ⟨sp,sc,sm⟩:=s
  dsimp only at hd hem hsw hcpg hcpp hcph ht2 w1 ⊢
  subst hd hem
  replace hsw:=Lib.hid hsw
  replace hcpg:=Lib.hid hcpg
  replace hcpp:=Lib.hid hcpp
  replace hcph:=Lib.hid hcph
  have lq:=h0.lt
  have c0:w.cell? ⟨q,0, .none⟩=some (.int .i64 sp):=h0.cell 0
  have c1:w.cell? ⟨q,1, .none⟩=some (.int .i64 sc):=h0.cell 1
  have c2:w.cell? ⟨q,2, .none⟩=some (.int .i64 sm):=h0.cell 2
  have c3:w.cell? ⟨q,3, .none⟩=some (.int .i64 tc):=h0.cell 3
  have c4:w.cell? ⟨q,4, .none⟩=some (.int .i64 tf):=h0.cell 4
  have c5:w.cell? ⟨q,5, .none⟩=some (.int .i64 tm):=h0.cell 5
  have c6:w.cell? ⟨q,6, .none⟩=some (.bool true):=h0.cell 6
  have c7:w.cell? ⟨q,7, .none⟩=some (.bool tfound):=h0.cell 7
  have c8:w.cell? ⟨q,8, .none⟩=some (.bool false):=h0.cell 8
  go_enter Tryz.func318,Tryz.ntmps318
  go_upto_region 1 with fail
  refine wp_region_ext (by kernel_rfl) (by kernel_rfl) ?_
  repeat (go_big_quiet_step ((first | (go_at_call 228;exact ext_of (hcpg.out _ (h0.row.below (Ext.below _)))) | (go_at_call 136;exact ext_of (hcpp.out _)) | fail)))
  refine wpQuiet_nil ?_
  rintro _ ⟨e',rfl⟩
  have hX:=h0.below e'.below
  generalize e'.w=X at *
  clear c0 c1 c2 c3 c4 c5 c6 c7 c8 h0 lq
  have k3:X.cell? ⟨q,3, .none⟩=some (.int .i64 tc):=hX.cell 3
  have k6:X.cell? ⟨q,6, .none⟩=some (.bool true):=hX.cell 6
  go_upto_region 5 with fail
  have lX:=hX.lt
  refine wp_region_ext_tail 12 (by kernel_rfl) (by kernel_rfl) ?_
  dsimp only [List.take,List.drop]
  repeat (go_big_quiet_step ((first | (go_at_call 167;exact ext_of (hcph.out _)) | fail)))
  refine wpQuiet_nil ?_
  rintro _ ⟨e',rfl⟩
  have hZ:=hX.below e'.below
  generalize e'.w=Z at *
  change wpList _ _ _ _ _ Z
  rcases hcs with ⟨hne,rfl⟩ | ⟨hne,rfl⟩
  ·replace ht2:=Lib.hid (ht2.out.trans (if_pos hne))
   clear hne
   go_wp2_with (first | (go_at_call 266;(with_reducible refine (hsw.out _ hZ.wds).mono ?_);rintro r w2 ⟨rfl,hw2,ho2⟩;have hA:=hZ.access hw2 ho2;have y7:w2.cell? ⟨q,7, .none⟩=some (.bool tfound):=hA.cell 7;have y8:w2.cell? ⟨q,8, .none⟩=some (.bool false):=hA.cell 8;have zf:=hA.free) | fail)
   go_returns
   exact ((hA.set 7 _).set 8 _).fin (by rw [ht2.out];rfl) rfl
  ·replace ht2:=Lib.hid (ht2.out.trans (if_neg hne))
   clear hne
   go_upto_region 9 with (first | (go_at_call 266;(with_reducible refine (hsw.out _ hZ.wds).mono ?_);rintro r w2 ⟨rfl,hw2,ho2⟩;have hA:=hZ.access hw2 ho2;have y5:w2.cell? ⟨q,5, .none⟩=some (.int .i64 tm):=hA.cell 5;have y6:w2.cell? ⟨q,6, .none⟩=some (.bool true):=hA.cell 6;have zf:=hA.free) | fail)
   have hB:=(hA.set 6 (.bool false)).set 5 (.int .i64 (tm + 1))
   clear hA y5 y6 zf
   generalize World.setCell _ ⟨q,5, .none⟩ (.int .i64 (tm + 1))=U at *
   have u0:U.cell? ⟨q,0, .none⟩=some (.int .i64 sp):=hB.cell 0
   have u5:U.cell? ⟨q,5, .none⟩=some (.int .i64 (tm + 1)):=hB.cell 5
   have lU:=hB.lt
   refine wp_region_ext_tail 13 (by kernel_rfl) (by kernel_rfl) ?_
   dsimp only [List.take,List.drop]
   repeat (go_big_quiet_step (fail))
   refine wpQuiet_nil ?_
   rintro _ ⟨e',rfl⟩
   have hC:=hB.below e'.below
   generalize e'.w=T at *
   change wpList _ _ _ _ _ T
   have v8:T.cell? ⟨q,8, .none⟩=some (.bool false):=hC.cell 8
   have zf:=hC.free
   go_wp2_with fail
   go_returns
   exact (hC.set 8 _).fin (by rw [ht2.out];rfl) rfl
 ·rw [if_pos hem] at hr
  obtain ⟨t2,ht2,ht2'⟩:∃ t2:Pc,Hid (t2=if m.get pa=0 then { t with empty:=true } else { t with empty:=false,many:=t.many + 1,done:=decide (t.many + 1=s.p) })∧t2=_:=⟨_,Lib.hid rfl,rfl⟩
  rw [← ht2'] at hr
  clear ht2' hsw hcph
  subst hr
  obtain ⟨x,hx⟩:∃ x,x=m.get pa:=⟨_,rfl⟩
  rw [← hx] at hlp hcs ht2
  clear hx
  obtain ⟨tc,tf,tm,tempty,tfound,tdone⟩:=t
  obtain ⟨sp,sc,sm⟩:=s
  dsimp only at hd hem hlp hcpg hcpp ht2 w1 ⊢
  subst hd hem
  replace hlp:=Lib.hid hlp
  replace hcpg:=Lib.hid hcpg
  replace hcpp:=Lib.hid hcpp
  have lq:=h0.lt
  have c0:w.cell? ⟨q,0, .none⟩=some (.int .i64 sp):=h0.cell 0
  have c1:w.cell? ⟨q,1, .none⟩=some (.int .i64 sc):=h0.cell 1
  have c2:w.cell? ⟨q,2, .none⟩=some (.int .i64 sm):=h0.cell 2
  have c3:w.cell? ⟨q,3, .none⟩=some (.int .i64 tc):=h0.cell 3
  have c4:w.cell? ⟨q,4, .none⟩=some (.int .i64 tf):=h0.cell 4
  have c5:w.cell? ⟨q,5, .none⟩=some (.int .i64 tm):=h0.cell 5
  have c6:w.cell? ⟨q,6, .none⟩=some (.bool false):=h0.cell 6
  have c7:w.cell? ⟨q,7, .none⟩=some (.bool tfound):=h0.cell 7
  have c8:w.cell? ⟨q,8, .none⟩=some (.bool false):=h0.cell 8
  go_enter Tryz.func318,Tryz.ntmps318
  go_upto_region 1 with fail
  refine wp_region_ext (by kernel_rfl) (by kernel_rfl) ?_
  repeat (go_big_quiet_step ((first | (go_at_call 228;exact ext_of (hcpg.out _ (h0.row.below (Ext.below _)))) | (go_at_call 136;exact ext_of (hcpp.out _)) | fail)))
  refine wpQuiet_nil ?_
  rintro _ ⟨e',rfl⟩
  have hX:=h0.below e'.below
  generalize e'.w=X at *
  clear c0 c1 c2 c3 c4 c5 c6 c7 c8 h0 lq
  have k3:X.cell? ⟨q,3, .none⟩=some (.int .i64 tc):=hX.cell 3
  have k6:X.cell? ⟨q,6, .none⟩=some (.bool false):=hX.cell 6
  rcases hcs with rfl | ⟨hne,hcs,_⟩
  ·replace ht2:=Lib.hid (ht2.out.trans (if_pos rfl))
   go_wp2_with (first | (go_at_call 263;(with_reducible refine (hlp.out _ hX.wds).mono ?_);rintro r w2 ⟨rfl,hw2,ho2⟩;have hA:=hX.load hw2 ho2;have y6:w2.cell? ⟨q,6, .none⟩=some (.bool false):=hA.cell 6;have zf:=hA.free) | fail)
   go_returns
   exact (hA.set 6 _).fin (by rw [ht2.out];rfl) rfl
  ·replace ht2:=Lib.hid (ht2.out.trans (if_neg hne))
   clear hne
   go_upto_region 9 with (first | (go_at_call 263;(with_reducible refine (hlp.out _ hX.wds).mono ?_);rintro r w2 ⟨rfl,hw2,ho2⟩;have hA:=hX.load hw2 ho2;have y5:w2.cell? ⟨q,5, .none⟩=some (.int .i64 tm):=hA.cell 5;have y6:w2.cell? ⟨q,6, .none⟩=some (.bool false):=hA.cell 6;have zf:=hA.free) | fail)
   have hB:=((hA.set 6 (.bool false)).set 6 (.bool false)).set 5 (.int .i64 (tm + 1))
   clear hA y5 y6 zf
   generalize World.setCell _ ⟨q,5, .none⟩ (.int .i64 (tm + 1))=U at *
   have u0:U.cell? ⟨q,0, .none⟩=some (.int .i64 sp):=hB.cell 0
   have u5:U.cell? ⟨q,5, .none⟩=some (.int .i64 (tm + 1)):=hB.cell 5
   have lU:=hB.lt
   refine wp_region_ext_tail 13 (by kernel_rfl) (by kernel_rfl) ?_
   dsimp only [List.take,List.drop]
   repeat (go_big_quiet_step (fail))
   refine wpQuiet_nil ?_
   rintro _ ⟨e',rfl⟩
   have hC:=hB.below e'.below
   generalize e'.w=T at *
   change wpList _ _ _ _ _ T
   have v8:T.cell? ⟨q,8, .none⟩=some (.bool false):=hC.cell 8
   have zf:=hC.free
   go_wp2_with fail
   go_returns
   exact (hC.set 8 _).fin (by rw [ht2.out];rfl) rfl
set_option maxRecDepth 100000 in
set_option maxHeartbeats 2000000 in
theorem spstep_any (q p b:Nat) (s:Sh) (t:Sp) (m:Mem) (w:World) (hq:RowAt w q (spCells s t) 328) (hw:WdsAt w p b m) (hqp:q≠p) (hqb:q≠b) (hf:Fits s m) (ho:spOk s t) (hs:m.st < 1000000000):
  Calls Tryz.prog 269 #[.pointer (some ⟨q,0, .none⟩), .pointer (some ⟨p,0, .none⟩)] w fun e w'=> Stepped q p b w w' e (spCells s (spStep s t m).1) 328 (spStep s t m).2:=by
 have h0:=At3.start hq hw hqp hqb
 clear hq hw
 rcases Bool.eq_false_or_eq_true t.done with hd | hd
 ·have hr:spStep s t m=(t,m):=by unfold spStep;rw [if_pos hd]
  rw [hr]
  clear hr
  have c9:w.cell? ⟨q,9, .none⟩=some (.bool true):=by rw [← hd];exact h0.cell 9
  clear ho hd hf
  go_enter Tryz.func269,Tryz.ntmps269
  go_wp2_with fail
  go_returns
  exact h0.fin rfl rfl
 obtain ⟨hc,hpg,hk,hi,hbk⟩:=ho.cl hd
 have hbd:=hf.bd
 have hsr:=slots_range hk
 obtain ⟨hpx,hph⟩:=hf.page hpg
 have hcpp:=fun Y=> planPage_any s.p s.c s.m t.page Y
 rw [hpx] at hcpp
 have hcph:=fun Y=> putPage_any 1 t.c 0 Y
 have hcpo:=fun Y=> putSlot_any 1 t.k Y
 have hcpw:=fun Y=> putSlot_any 2 t.c Y
 have hcss:=fun Y=> slots_any t.k Y
 obtain ⟨r,hr⟩:∃ r,r=spStep s t m:=⟨_,rfl⟩
 rw [← hr]
 unfold spStep at hr
 rw [if_neg (by rw [hd];decide)] at hr
 have hhw:Hid (heldW t.c=pageV 1 t.c 0):=Lib.hid rfl
 have hop:Hid (openW t.k=slotV 1 t.k):=Lib.hid rfl
 have hwy:Hid (wayW t.c=slotV 2 t.c):=Lib.hid rfl
 rw [← hhw.out] at hcph
 rw [← hop.out] at hcpo
 rw [← hwy.out] at hcpw
 have hhf:0≤heldW t.c∧heldW t.c < 18446744073709551616:=pageV_u64 _ _ _
 have hof:0≤openW t.k∧openW t.k < 18446744073709551616:=slotV_u64 _ _
 have hwf:0≤wayW t.c∧wayW t.c < 18446744073709551616:=slotV_u64 _ _
 clear hhw hop hwy
 rw [hpx] at hr
 have w1:IntKind.i64.wrap (t.i - 1)=t.i - 1:=IntWalk.i64_in _ ⟨by omega,by omega⟩
 have w2:IntKind.i64.wrap (t.i + 1)=t.i + 1:=IntWalk.i64_in _ ⟨by omega,by omega⟩
 rcases Bool.eq_false_or_eq_true t.back with hb | hb
 ·rw [if_pos hb] at hr
  have hi1:=hbk hb
  obtain ⟨hsx,hsh⟩:=hf.slot hpg (i:=t.i - 1) (by omega)
  have hcsl:=fun Y=> planSlot_any s.p s.c s.m t.page (t.i - 1) Y
  rw [hsx] at hcsl hr
  have hst:=fun Y (hY:WdsAt Y p b m)=> wstore_any p b m t.c (s.c + s.p + t.page * 16 + (t.i - 1)) (openW t.k) Y hY hsh hof hs
  generalize s.c + s.p + t.page * 16 + (t.i - 1)=sa at hcsl hst hr
  generalize openW t.k=ow at *
  clear hcpp hcph hcpw hcss hsx hsh hph hpx ho hf hc hpg hbk hhf hof hwf w2 hbd hsr hk
  obtain ⟨t2,ht2,ht2'⟩:∃ t2:Sp,Hid (t2= { t with i:=t.i - 1,done:=decide (t.i - 1=0) })∧t2=_:=⟨_,Lib.hid rfl,rfl⟩
  rw [← ht2'] at hr
  clear ht2'
  subst hr
  obtain ⟨tc,tg,tk,ti,tback,theld,tdone⟩:=t
  obtain ⟨sp,sc,sm⟩:=s
  dsimp only at hd hb hst hcsl hcpo ht2 w1 ⊢
  subst hd hb
  replace hst:=Lib.hid hst
  replace hcsl:=Lib.hid hcsl
  replace hcpo:=Lib.hid hcpo
  clear hi hi1
  have lq:=h0.lt
  have c0:w.cell? ⟨q,0, .none⟩=some (.int .i64 sp):=h0.cell 0
  have c1:w.cell? ⟨q,1, .none⟩=some (.int .i64 sc):=h0.cell 1
  have c2:w.cell? ⟨q,2, .none⟩=some (.int .i64 sm):=h0.cell 2
  have c3:w.cell? ⟨q,3, .none⟩=some (.int .i64 tc):=h0.cell 3
  have c4:w.cell? ⟨q,4, .none⟩=some (.int .i64 tg):=h0.cell 4
  have c5:w.cell? ⟨q,5, .none⟩=some (.int .i64 tk):=h0.cell 5
  have c6:w.cell? ⟨q,6, .none⟩=some (.int .i64 ti):=h0.cell 6
  have c7:w.cell? ⟨q,7, .none⟩=some (.bool true):=h0.cell 7
  have c8:w.cell? ⟨q,8, .none⟩=some (.bool theld):=h0.cell 8
  have c9:w.cell? ⟨q,9, .none⟩=some (.bool false):=h0.cell 9
  go_enter Tryz.func269,Tryz.ntmps269
  go_upto_region 4 with (first | (go_at_call 169;(with_reducible refine (hcpo.out _).mono ?_);rintro r w1 ⟨rfl,hb1⟩;have hY:=h0.below hb1;have z0:w1.cell? ⟨q,0, .none⟩=some (.int .i64 sp):=hY.cell 0;have z1:w1.cell? ⟨q,1, .none⟩=some (.int .i64 sc):=hY.cell 1;have z2:w1.cell? ⟨q,2, .none⟩=some (.int .i64 sm):=hY.cell 2;have z3:w1.cell? ⟨q,3, .none⟩=some (.int .i64 tc):=hY.cell 3;have z4:w1.cell? ⟨q,4, .none⟩=some (.int .i64 tg):=hY.cell 4;have z5:w1.cell? ⟨q,5, .none⟩=some (.int .i64 tk):=hY.cell 5;have z6:w1.cell? ⟨q,6, .none⟩=some (.int .i64 ti):=hY.cell 6;have z7:w1.cell? ⟨q,7, .none⟩=some (.bool true):=hY.cell 7;have z8:w1.cell? ⟨q,8, .none⟩=some (.bool theld):=hY.cell 8;have z9:w1.cell? ⟨q,9, .none⟩=some (.bool false):=hY.cell 9) | fail)
  have lY:=hY.lt
  clear c0 c1 c2 c3 c4 c5 c6 c7 c8 c9 h0 lq
  refine wp_region_ext_tail 20 (by kernel_rfl) (by kernel_rfl) ?_
  dsimp only [List.take,List.drop]
  repeat (go_big_quiet_step ((first | (go_at_call 138;exact ext_of (hcsl.out _)) | fail)))
  refine wpQuiet_nil ?_
  rintro _ ⟨e',rfl⟩
  have hZ:=hY.below e'.below
  generalize e'.w=Z at *
  change wpList _ _ _ _ _ Z
  clear z0 z1 z2 z3 z4 z5 z6 z7 z8 z9 hY lY
  go_wp2_with (first | (go_at_call 262;(with_reducible refine (hst.out _ hZ.wds).mono ?_);rintro r w2 ⟨rfl,hw2,ho2⟩;have hA:=hZ.access hw2 ho2;have y6:w2.cell? ⟨q,6, .none⟩=some (.int .i64 ti):=hA.cell 6;have y9:w2.cell? ⟨q,9, .none⟩=some (.bool false):=hA.cell 9;have zf:=hA.free) | fail)
  go_returns
  exact ((hA.set 6 _).set 9 _).fin (by rw [ht2.out];rfl) rfl
 ·rw [if_neg (by rw [hb];decide)] at hr
  have hcs:t.i=slotsV t.k∨(¬ t.i=slotsV t.k∧(t.i==slotsV t.k)=false):=by
   by_cases h:t.i=slotsV t.k
   ·exact .inl h
   ·exact .inr ⟨h,by simpa using h⟩
  rcases hcs with hcs | ⟨hcn,hcs⟩
  ·rw [if_pos hcs] at hr
   have hst:=fun Y (hY:WdsAt Y p b m)=> wstore_any p b m t.c (s.c + t.page) (heldW t.c) Y hY hph hhf hs
   generalize s.c + t.page=pa at hcpp hst hr
   generalize openW t.k=ow at *
   generalize heldW t.c=hw at *
   clear hcpw hph hpx ho hf hc hpg hbk hhf hof hwf w2 w1 hbd hsr hk hi
   obtain ⟨t2,ht2,ht2'⟩:∃ t2:Sp,Hid (t2= { t with held:=true,done:=true })∧t2=_:=⟨_,Lib.hid rfl,rfl⟩
   rw [← ht2'] at hr
   clear ht2'
   subst hr
   rw [← hcs] at hcss
   clear hcs
   obtain ⟨tc,tg,tk,ti,tback,theld,tdone⟩:=t
   obtain ⟨sp,sc,sm⟩:=s
   dsimp only at hd hb hst hcpp hcph hcpo hcss ht2 ⊢
   subst hd hb
   replace hst:=Lib.hid hst
   replace hcpp:=Lib.hid hcpp
   replace hcph:=Lib.hid hcph
   replace hcpo:=Lib.hid hcpo
   replace hcss:=Lib.hid hcss
   have lq:=h0.lt
   have c0:w.cell? ⟨q,0, .none⟩=some (.int .i64 sp):=h0.cell 0
   have c1:w.cell? ⟨q,1, .none⟩=some (.int .i64 sc):=h0.cell 1
   have c2:w.cell? ⟨q,2, .none⟩=some (.int .i64 sm):=h0.cell 2
   have c3:w.cell? ⟨q,3, .none⟩=some (.int .i64 tc):=h0.cell 3
   have c4:w.cell? ⟨q,4, .none⟩=some (.int .i64 tg):=h0.cell 4
   have c5:w.cell? ⟨q,5, .none⟩=some (.int .i64 tk):=h0.cell 5
   have c6:w.cell? ⟨q,6, .none⟩=some (.int .i64 ti):=h0.cell 6
   have c7:w.cell? ⟨q,7, .none⟩=some (.bool false):=h0.cell 7
   have c8:w.cell? ⟨q,8, .none⟩=some (.bool theld):=h0.cell 8
   have c9:w.cell? ⟨q,9, .none⟩=some (.bool false):=h0.cell 9
   go_enter Tryz.func269,Tryz.ntmps269
   go_upto_region 7 with (first | (go_at_call 169;(with_reducible refine (hcpo.out _).mono ?_);rintro r w1 ⟨rfl,hb1⟩;have hY:=h0.below hb1;have z0:w1.cell? ⟨q,0, .none⟩=some (.int .i64 sp):=hY.cell 0;have z1:w1.cell? ⟨q,1, .none⟩=some (.int .i64 sc):=hY.cell 1;have z2:w1.cell? ⟨q,2, .none⟩=some (.int .i64 sm):=hY.cell 2;have z3:w1.cell? ⟨q,3, .none⟩=some (.int .i64 tc):=hY.cell 3;have z4:w1.cell? ⟨q,4, .none⟩=some (.int .i64 tg):=hY.cell 4;have z5:w1.cell? ⟨q,5, .none⟩=some (.int .i64 tk):=hY.cell 5;have z6:w1.cell? ⟨q,6, .none⟩=some (.int .i64 ti):=hY.cell 6;have z7:w1.cell? ⟨q,7, .none⟩=some (.bool false):=hY.cell 7;have z8:w1.cell? ⟨q,8, .none⟩=some (.bool theld):=hY.cell 8;have z9:w1.cell? ⟨q,9, .none⟩=some (.bool false):=hY.cell 9) | fail)
   have lY:=hY.lt
   clear c0 c1 c2 c3 c4 c5 c6 c7 c8 c9 h0 lq
   refine wp_region_ext (by kernel_rfl) (by kernel_rfl) ?_
   repeat (go_big_quiet_step ((first | (go_at_call 97;exact ext_same ((hcss.out _).mono fun _ _ h=> ⟨h.1,h.2⟩)) | fail)))
   refine wpQuiet_nil ?_
   rintro _ ⟨e',rfl⟩
   have hX:=hY.below e'.below
   generalize e'.w=X at *
   clear z0 z1 z2 z3 z4 z5 z6 z7 z8 z9 hY lY
   go_upto_region 8 with fail
   have lX:=hX.lt
   have k0:X.cell? ⟨q,0, .none⟩=some (.int .i64 sp):=hX.cell 0
   have k1:X.cell? ⟨q,1, .none⟩=some (.int .i64 sc):=hX.cell 1
   have k2:X.cell? ⟨q,2, .none⟩=some (.int .i64 sm):=hX.cell 2
   have k3:X.cell? ⟨q,3, .none⟩=some (.int .i64 tc):=hX.cell 3
   have k4:X.cell? ⟨q,4, .none⟩=some (.int .i64 tg):=hX.cell 4
   refine wp_region_ext_tail 20 (by kernel_rfl) (by kernel_rfl) ?_
   dsimp only [List.take,List.drop]
   repeat (go_big_quiet_step ((first | (go_at_call 136;exact ext_of (hcpp.out _)) | (go_at_call 167;exact ext_of (hcph.out _)) | fail)))
   refine wpQuiet_nil ?_
   rintro _ ⟨e',rfl⟩
   have hZ:=hX.below e'.below
   generalize e'.w=Z at *
   change wpList _ _ _ _ _ Z
   clear k0 k1 k2 k3 k4 hX lX
   go_wp2_with (first | (go_at_call 262;(with_reducible refine (hst.out _ hZ.wds).mono ?_);rintro r w2 ⟨rfl,hw2,ho2⟩;have hA:=hZ.access hw2 ho2;have y8:w2.cell? ⟨q,8, .none⟩=some (.bool theld):=hA.cell 8;have y9:w2.cell? ⟨q,9, .none⟩=some (.bool false):=hA.cell 9;have zf:=hA.free) | fail)
   go_returns
   exact ((hA.set 8 _).set 9 _).fin (by rw [ht2.out];rfl) rfl
  ·rw [if_neg hcn] at hr
   obtain ⟨hsx,hsh⟩:=hf.slot hpg (i:=t.i) (by omega)
   have hcsl:=fun Y=> planSlot_any s.p s.c s.m t.page t.i Y
   rw [hsx] at hcsl hr
   have hsw:=fun Y (hY:WdsAt Y p b m)=> wswap_any p b m t.c (s.c + s.p + t.page * 16 + t.i) (openW t.k) (wayW t.c) Y hY hsh hwf hs
   generalize s.c + s.p + t.page * 16 + t.i=sa at hcsl hsw hr
   generalize openW t.k=ow at *
   generalize wayW t.c=ww at *
   obtain ⟨t2,ht2,ht2'⟩:∃ t2:Sp,Hid (t2=if m.get sa=ow then { t with i:=t.i + 1 } else { t with back:=true,done:=decide (t.i=0) })∧t2=_:=⟨_,Lib.hid rfl,rfl⟩
   rw [← ht2'] at hr
   clear ht2'
   subst hr
   have hgs:(m.get sa=ow∧decide (m.get sa=ow)=true)∨(¬ m.get sa=ow∧decide (m.get sa=ow)=false):=by
    by_cases h:m.get sa=ow
    ·exact .inl ⟨h,decide_eq_true h⟩
    ·exact .inr ⟨h,decide_eq_false h⟩
   generalize decide (m.get sa=ow)=g at hsw hgs
   generalize slotsV t.k=sv at *
   clear hcph hcpp hph hpx hsx hsh ho hf hc hpg hbk hhf hof hwf w1 hbd hsr hk hi hcn
   obtain ⟨tc,tg,tk,ti,tback,theld,tdone⟩:=t
   obtain ⟨sp,sc,sm⟩:=s
   dsimp only at hd hb hsw hcsl hcpo hcpw hcss ht2 w2 hcs ⊢
   subst hd hb
   replace hsw:=Lib.hid hsw
   replace hcsl:=Lib.hid hcsl
   replace hcpo:=Lib.hid hcpo
   replace hcpw:=Lib.hid hcpw
   replace hcss:=Lib.hid hcss
   have lq:=h0.lt
   have c0:w.cell? ⟨q,0, .none⟩=some (.int .i64 sp):=h0.cell 0
   have c1:w.cell? ⟨q,1, .none⟩=some (.int .i64 sc):=h0.cell 1
   have c2:w.cell? ⟨q,2, .none⟩=some (.int .i64 sm):=h0.cell 2
   have c3:w.cell? ⟨q,3, .none⟩=some (.int .i64 tc):=h0.cell 3
   have c4:w.cell? ⟨q,4, .none⟩=some (.int .i64 tg):=h0.cell 4
   have c5:w.cell? ⟨q,5, .none⟩=some (.int .i64 tk):=h0.cell 5
   have c6:w.cell? ⟨q,6, .none⟩=some (.int .i64 ti):=h0.cell 6
   have c7:w.cell? ⟨q,7, .none⟩=some (.bool false):=h0.cell 7
   have c8:w.cell? ⟨q,8, .none⟩=some (.bool theld):=h0.cell 8
   have c9:w.cell? ⟨q,9, .none⟩=some (.bool false):=h0.cell 9
   go_enter Tryz.func269,Tryz.ntmps269
   go_upto_region 7 with (first | (go_at_call 169;(with_reducible refine (hcpo.out _).mono ?_);rintro r w1 ⟨rfl,hb1⟩;have hY:=h0.below hb1;have z0:w1.cell? ⟨q,0, .none⟩=some (.int .i64 sp):=hY.cell 0;have z1:w1.cell? ⟨q,1, .none⟩=some (.int .i64 sc):=hY.cell 1;have z2:w1.cell? ⟨q,2, .none⟩=some (.int .i64 sm):=hY.cell 2;have z3:w1.cell? ⟨q,3, .none⟩=some (.int .i64 tc):=hY.cell 3;have z4:w1.cell? ⟨q,4, .none⟩=some (.int .i64 tg):=hY.cell 4;have z5:w1.cell? ⟨q,5, .none⟩=some (.int .i64 tk):=hY.cell 5;have z6:w1.cell? ⟨q,6, .none⟩=some (.int .i64 ti):=hY.cell 6;have z7:w1.cell? ⟨q,7, .none⟩=some (.bool false):=hY.cell 7;have z8:w1.cell? ⟨q,8, .none⟩=some (.bool theld):=hY.cell 8;have z9:w1.cell? ⟨q,9, .none⟩=some (.bool false):=hY.cell 9) | fail)
   have lY:=hY.lt
   clear c0 c1 c2 c3 c4 c5 c6 c7 c8 c9 h0 lq
   refine wp_region_ext (by kernel_rfl) (by kernel_rfl) ?_
   repeat (go_big_quiet_step ((first | (go_at_call 97;exact ext_same ((hcss.out _).mono fun _ _ h=> ⟨h.1,h.2⟩)) | fail)))
   refine wpQuiet_nil ?_
   rintro _ ⟨e',rfl⟩
   have hX:=hY.below e'.below
   generalize e'.w=X at *
   clear z0 z1 z2 z3 z4 z5 z6 z7 z8 z9 hY lY
   go_upto_region 10 with fail
   have lX:=hX.lt
   have k0:X.cell? ⟨q,0, .none⟩=some (.int .i64 sp):=hX.cell 0
   have k1:X.cell? ⟨q,1, .none⟩=some (.int .i64 sc):=hX.cell 1
   have k2:X.cell? ⟨q,2, .none⟩=some (.int .i64 sm):=hX.cell 2
   have k3:X.cell? ⟨q,3, .none⟩=some (.int .i64 tc):=hX.cell 3
   have k4:X.cell? ⟨q,4, .none⟩=some (.int .i64 tg):=hX.cell 4
   have k5:X.cell? ⟨q,5, .none⟩=some (.int .i64 tk):=hX.cell 5
   have k6:X.cell? ⟨q,6, .none⟩=some (.int .i64 ti):=hX.cell 6
   rcases hgs with ⟨hne,rfl⟩ | ⟨hne,rfl⟩
   ·replace ht2:=Lib.hid (ht2.out.trans (if_pos hne))
    clear hne
    refine wp_region_ext_tail 25 (by kernel_rfl) (by kernel_rfl) ?_
    dsimp only [List.take,List.drop]
    repeat (go_big_quiet_step ((first | (go_at_call 138;exact ext_of (hcsl.out _)) | (go_at_call 169;exact ext_of (hcpw.out _)) | fail)))
    refine wpQuiet_nil ?_
    rintro _ ⟨e',rfl⟩
    have hZ:=hX.below e'.below
    generalize e'.w=Z at *
    change wpList _ _ _ _ _ Z
    clear k0 k1 k2 k3 k4 k5 k6 hX lX
    go_wp2_with (first | (go_at_call 266;(with_reducible refine (hsw.out _ hZ.wds).mono ?_);rintro r w2 ⟨rfl,hw2,ho2⟩;have hA:=hZ.access hw2 ho2;have y6:w2.cell? ⟨q,6, .none⟩=some (.int .i64 ti):=hA.cell 6;have zf:=hA.free) | fail)
    go_returns
    exact (hA.set 6 _).fin (by rw [ht2.out];rfl) rfl
   ·replace ht2:=Lib.hid (ht2.out.trans (if_neg hne))
    clear hne
    refine wp_region_ext_tail 25 (by kernel_rfl) (by kernel_rfl) ?_
    dsimp only [List.take,List.drop]
    repeat (go_big_quiet_step ((first | (go_at_call 138;exact ext_of (hcsl.out _)) | (go_at_call 169;exact ext_of (hcpw.out _)) | fail)))
    refine wpQuiet_nil ?_
    rintro _ ⟨e',rfl⟩
    have hZ:=hX.below e'.below
    generalize e'.w=Z at *
    change wpList _ _ _ _ _ Z
    clear k0 k1 k2 k3 k4 k5 k6 hX lX
    go_wp2_with (first | (go_at_call 266;(with_reducible refine (hsw.out _ hZ.wds).mono ?_);rintro r w2 ⟨rfl,hw2,ho2⟩;have hA:=hZ.access hw2 ho2;have y6:w2.cell? ⟨q,6, .none⟩=some (.int .i64 ti):=hA.cell 6;have y7:w2.cell? ⟨q,7, .none⟩=some (.bool false):=hA.cell 7;have y9:w2.cell? ⟨q,9, .none⟩=some (.bool false):=hA.cell 9;have zf:=hA.free) | fail)
    go_returns
    exact ((hA.set 7 _).set 9 _).fin (by rw [ht2.out];rfl) rfl
end Go.Proofs.YtampacmmhhilaaaGreat

/- The Claimer of pages, the Stripper, the Binder in memory. -/
import Derived.Test.YthgekdlegbmehaaGreatBq9

set_option linter.all false
set_option maxHeartbeats 2000000
set_option maxRecDepth 100000
namespace Go.Proofs.YthgekdlegbmehaaGreat

open Go.RowKit

attribute [local go_sem ↓] Go.wp_at_zero Go.wp_at_succ

def zc9 (s:Sh) (t:Sp):Array Value:= #[.int .i64 s.p,.int .i64 s.c,.int .i64 s.m,.int .i64 t.c,.int .i64 t.page,.int .i64 t.k,.int .i64 t.i,.bool t.back,.bool t.held,.bool t.done]
theorem zs8 (s:Sh) (c pg k:Int) (w:World):
  Calls Tryz.prog 124 #[.agg #[.int .i64 s.p,.int .i64 s.c,.int .i64 s.m],.int .i64 c,.int .i64 pg,.int .i64 k] w fun e w'=> Born w w' e (zc9 s (zfa s c pg k)) 170:=by
 have hcStatus:=fun W=> zau s.p s.c s.m c W
 have hcPage:=fun W=> planPage_any s.p s.c s.m pg W
 have hcSlots:=fun W=> slots_any k W
 have hn:zc9 s (zfa s c pg k)= #[.int .i64 s.p,.int .i64 s.c,.int .i64 s.m,.int .i64 c,.int .i64 pg,.int .i64 k,.int .i64 0,.bool false,.bool false,.bool (!(decide (0<=zae s.p s.c s.m c) && decide (0<=zak s.p s.c s.m pg) && decide (0 < zah k)))]:=rfl
 rw [hn]
 clear hn
 generalize zae s.p s.c s.m c=sx at *
 generalize zak s.p s.c s.m pg=px at *
 generalize zah k=sv at *
 obtain ⟨sp,sc,sm⟩:=s
 dsimp only at hcStatus hcPage ⊢
 replace hcStatus:=hd' hcStatus
 replace hcPage:=hd' hcPage
 replace hcSlots:=hd' hcSlots
 have hcs:(sx < 0)\/(0<=sx/\px < 0)\/(0<=sx/\0<=px/\sv<=0)\/(0<=sx/\0<=px/\0 < sv):=by omega
 have hb0:=(Below.refl w.heap.size w).alloc lr (.cells #[.int .i64 sp,.int .i64 sc,.int .i64 sm] 24)
 have t0:=heap_alloc_new w (.cells #[.int .i64 sp,.int .i64 sc,.int .i64 sm] 24)
 go_enter Tryz.func124,Tryz.ntmps124
 go_upto_region 1 with fail
 generalize w.alloc (.cells #[.int .i64 sp,.int .i64 sc,.int .i64 sm] 24)=W at *
 obtain ⟨H,hH,hH'⟩:=hidv w.heap.size
 rw [<- hH'] at t0 ⊢
 have lH:H < W.heap.size:=(Array.getElem?_eq_some_iff.1 t0).1
 have c0:W.cell? ⟨H,0,.none⟩=some (.int .i64 sp):=zac t0 0
 have c1:W.cell? ⟨H,1,.none⟩=some (.int .i64 sc):=zac t0 1
 have c2:W.cell? ⟨H,2,.none⟩=some (.int .i64 sm):=zac t0 2
 clear hH' t0
 rcases hcs with h1 | ⟨h1,h2⟩ | ⟨h1,h2,h3⟩ | ⟨h1,h2,h3⟩
 all_goals
  go_wp2_with (first | (go_at_call 14;(with_reducible refine (hcStatus.out _).mono ?_);rintro r w1 ⟨rfl,hb1⟩;have d0:=zai hb1 _ _ _ c0;have d1:=zai hb1 _ _ _ c1;have d2:=zai hb1 _ _ _ c2) | (go_at_call 59;(with_reducible refine (hcPage.out _).mono ?_);rintro r w2 ⟨rfl,hb2⟩;have k0:=zai hb2 _ _ _ d0;have k1:=zai hb2 _ _ _ d1;have k2:=zai hb2 _ _ _ d2) | (go_at_call 58;(with_reducible refine (hcSlots.out _).mono ?_);rintro r w3 ⟨rfl,rfl⟩) | fail)
  go_returns
 ·exact za6 hb0 hb1 (by simp [Int.not_le.2 h1])
 ·exact za6 hb0 (zab hb1 hb2) (by simp [h1,Int.not_le.2 h2])
 ·exact za6 hb0 (zab hb1 hb2) (by simp [h1,h2,Int.not_lt.2 h3])
 ·exact za6 hb0 (zab hb1 hb2) (by simp [h1,h2,h3])
def ze5 (s:Sh) (t:Bn):Array Value:= #[.int .i64 s.p,.int .i64 s.c,.int .i64 s.m,.int .i64 t.c,.int .i64 t.page,.int .i64 t.k,.int .i64 t.i,.bool t.bound,.bool t.done]
theorem z1j (s:Sh) (c pg k:Int) (w:World):
  Calls Tryz.prog 91 #[.agg #[.int .i64 s.p,.int .i64 s.c,.int .i64 s.m],.int .i64 c,.int .i64 pg,.int .i64 k] w fun e w'=> Born w w' e (ze5 s (zfi s c pg k)) 172:=by
 have hcStatus:=fun W=> zau s.p s.c s.m c W
 have hcPage:=fun W=> planPage_any s.p s.c s.m pg W
 have hcSlots:=fun W=> slots_any k W
 have hn:ze5 s (zfi s c pg k)= #[.int .i64 s.p,.int .i64 s.c,.int .i64 s.m,.int .i64 c,.int .i64 pg,.int .i64 k,.int .i64 0,.bool false,.bool (!(decide (0<=zae s.p s.c s.m c) && decide (0<=zak s.p s.c s.m pg) && decide (0 < zah k)))]:=rfl
 rw [hn]
 clear hn
 generalize zae s.p s.c s.m c=sx at *
 generalize zak s.p s.c s.m pg=px at *
 generalize zah k=sv at *
 obtain ⟨sp,sc,sm⟩:=s
 dsimp only at hcStatus hcPage ⊢
 replace hcStatus:=hd' hcStatus
 replace hcPage:=hd' hcPage
 replace hcSlots:=hd' hcSlots
 have hcs:(sx < 0)\/(0<=sx/\px < 0)\/(0<=sx/\0<=px/\sv<=0)\/(0<=sx/\0<=px/\0 < sv):=by omega
 have hb0:=(Below.refl w.heap.size w).alloc lr (.cells #[.int .i64 sp,.int .i64 sc,.int .i64 sm] 24)
 have t0:=heap_alloc_new w (.cells #[.int .i64 sp,.int .i64 sc,.int .i64 sm] 24)
 go_enter Tryz.func91,Tryz.ntmps91
 go_upto_region 1 with fail
 generalize w.alloc (.cells #[.int .i64 sp,.int .i64 sc,.int .i64 sm] 24)=W at *
 obtain ⟨H,hH,hH'⟩:=hidv w.heap.size
 rw [<- hH'] at t0 ⊢
 have lH:H < W.heap.size:=(Array.getElem?_eq_some_iff.1 t0).1
 have c0:W.cell? ⟨H,0,.none⟩=some (.int .i64 sp):=zac t0 0
 have c1:W.cell? ⟨H,1,.none⟩=some (.int .i64 sc):=zac t0 1
 have c2:W.cell? ⟨H,2,.none⟩=some (.int .i64 sm):=zac t0 2
 clear hH' t0
 rcases hcs with h1 | ⟨h1,h2⟩ | ⟨h1,h2,h3⟩ | ⟨h1,h2,h3⟩
 all_goals
  go_wp2_with (first | (go_at_call 14;(with_reducible refine (hcStatus.out _).mono ?_);rintro r w1 ⟨rfl,hb1⟩;have d0:=zai hb1 _ _ _ c0;have d1:=zai hb1 _ _ _ c1;have d2:=zai hb1 _ _ _ c2) | (go_at_call 59;(with_reducible refine (hcPage.out _).mono ?_);rintro r w2 ⟨rfl,hb2⟩;have k0:=zai hb2 _ _ _ d0;have k1:=zai hb2 _ _ _ d1;have k2:=zai hb2 _ _ _ d2) | (go_at_call 58;(with_reducible refine (hcSlots.out _).mono ?_);rintro r w3 ⟨rfl,rfl⟩) | fail)
  go_returns
 ·exact za6 hb0 hb1 (by simp [Int.not_le.2 h1])
 ·exact za6 hb0 (zab hb1 hb2) (by simp [h1,Int.not_le.2 h2])
 ·exact za6 hb0 (zab hb1 hb2) (by simp [h1,h2,Int.not_lt.2 h3])
 ·exact za6 hb0 (zab hb1 hb2) (by simp [h1,h2,h3])
def zfn (s:Sh) (t:Pc):Array Value:= #[.int .i64 s.p,.int .i64 s.c,.int .i64 s.m,.int .i64 t.c,.int .i64 t.first,.int .i64 t.many,.bool t.empty,.bool t.found,.bool t.done]
theorem z3d (s:Sh) (c f:Int) (w:World):
  Calls Tryz.prog 83 #[.agg #[.int .i64 s.p,.int .i64 s.c,.int .i64 s.m],.int .i64 c,.int .i64 f] w fun e w'=> Born w w' e (zfn s (zlu s c f)) 167:=by
 have hg:=fun W=> zau s.p s.c s.m c W
 have hp:=fun W=> planPage_any s.p s.c s.m f W
 have hn:zfn s (zlu s c f)= #[.int .i64 s.p,.int .i64 s.c,.int .i64 s.m,.int .i64 c,.int .i64 f,.int .i64 0,.bool false,.bool false,.bool (decide (zae s.p s.c s.m c < 0) || decide (zak s.p s.c s.m f < 0))]:=rfl
 rw [hn]
 clear hn
 generalize zae s.p s.c s.m c=sx at *
 generalize zak s.p s.c s.m f=px at *
 obtain ⟨sp,sc,sm⟩:=s
 dsimp only at hg hp ⊢
 replace hg:=hd' hg
 replace hp:=hd' hp
 have hb0:=(Below.refl w.heap.size w).alloc lr (.cells #[.int .i64 sp,.int .i64 sc,.int .i64 sm] 24)
 have t0:=heap_alloc_new w (.cells #[.int .i64 sp,.int .i64 sc,.int .i64 sm] 24)
 go_enter Tryz.func83,Tryz.ntmps83
 go_upto_region 1 with fail
 generalize w.alloc (.cells #[.int .i64 sp,.int .i64 sc,.int .i64 sm] 24)=W at *
 obtain ⟨H,hH,hH'⟩:=hidv w.heap.size
 rw [<- hH'] at t0 ⊢
 have lH:H < W.heap.size:=(Array.getElem?_eq_some_iff.1 t0).1
 have c0:W.cell? ⟨H,0,.none⟩=some (.int .i64 sp):=zac t0 0
 have c1:W.cell? ⟨H,1,.none⟩=some (.int .i64 sc):=zac t0 1
 have c2:W.cell? ⟨H,2,.none⟩=some (.int .i64 sm):=zac t0 2
 clear hH' t0
 rcases (by omega:sx < 0\/(¬ sx < 0/\px < 0)\/(¬ sx < 0/\¬ px < 0)) with h1 | ⟨h1,h2⟩ | ⟨h1,h2⟩
 all_goals
  try have q1:=decide_eq_false h1
  refine zad 14 (by kernel_rfl) (by kernel_rfl) ?_
  dsimp only [List.take,List.drop]
  repeat (go_big_quiet_step ((first | (go_at_call 14;exact zam (hg.out _)) | (go_at_call 59;exact zam (hp.out _)) | fail)))
  refine wpQuiet_nil ?_
  rintro _ ⟨e',rfl⟩
  have hbe:=e'.below
  generalize e'.w=X at *
  change wpList _ _ _ _ _ X
  go_wp2_with fail
  go_returns
 ·exact za6 hb0 hbe (by simp [h1])
 ·exact za6 hb0 hbe (by simp [h1,h2])
 ·exact za6 hb0 hbe (by simp [h1,h2])
theorem zoo (q:Nat) (s:Sh) (t:Pc) (w:World) (hq:zaa w q (zfn s t) 167) (hp:1<=s.p/\s.p<=64) (h1:0<=t.first/\t.first < 64) (h2:0<=t.many/\t.many<=64):
  Calls Tryz.prog 90 #[.pointer (some ⟨q,0,.none⟩)] w fun e w'=> e= .returned (.int .i64 (t.page s))/\Below w.heap.size w w':=by
 unfold Pc.page
 obtain ⟨sp,sc,sm⟩:=s
 obtain ⟨tc,tf,tm,tempty,tfound,tdone⟩:=t
 dsimp only at hp h1 h2 ⊢
 have lq:=hq.lt
 have c0:=ci sp (hq.cell 0)
 have c4:=ci tf (hq.cell 4)
 have c5:=ci tm (hq.cell 5)
 obtain ⟨p1,p2⟩:=hp
 obtain ⟨f1,f2⟩:=h1
 obtain ⟨m1,m2⟩:=h2
 have w1:=wrp (tf + tm)
 have w2:(tf + tm).tmod sp=(tf + tm) % sp:=Int.tmod_eq_emod_of_nonneg (by omega)
 have w4:(sp==0)=false:=by simp;omega
 have w3:IntKind.i64.wrap ((tf + tm) % sp)=(tf + tm) % sp:=by
  have b1:=Int.emod_nonneg (tf + tm) (by omega:sp≠0)
  have b2:=Int.emod_lt_of_pos (tf + tm) (by omega:0 < sp)
  exact IntWalk.i64_in _ ⟨by omega,by omega⟩
 go_enter Tryz.func90,Tryz.ntmps90
 go_wp2_with fail
 go_quiet (fail)
 have hb:=below_drewN (Below.refl w.heap.size w) nq
 go_wp2_with fail
 go_returns
 exact ⟨rfl,hb⟩
theorem zxr (q p b:Nat) (s:Sh) (t:Pc) (m:Mem) (w:World) (hq:zaa w q (zfn s t) 167) (hw:zaq w p b m) (hqp:q≠p) (hqb:q≠b) (hf:Fits s m) (ho:pcOk s t) (hs:m.st < 1000000000):
  Calls Tryz.prog 187 #[.pointer (some ⟨q,0,.none⟩),.pointer (some ⟨p,0,.none⟩)] w fun e w'=> Stepped q p b w w' e (zfn s (ze7 s t m).1) 167 (ze7 s t m).2:=by
 have h0:=At3.start hq hw hqp hqb
 clear hq hw
 rcases Bool.eq_false_or_eq_true t.done with hd | hd
 ·have hr:ze7 s t m=(t,m):=by unfold ze7;rw [if_pos hd]
  rw [hr]
  clear hr
  have c8:w.cell? ⟨q,8,.none⟩=some (.bool true):=by rw [<- hd];exact h0.cell 8
  clear ho hd hf
  go_enter Tryz.func187,Tryz.ntmps187
  go_wp2_with fail
  go_returns
  exact h0.fin rfl rfl
 obtain ⟨hc,hfi,hmn⟩:=ho.cl hd
 have hbd:=hf.bd
 have hpg:0<=t.page s/\t.page s < s.p:=⟨Int.emod_nonneg _ (by omega),Int.emod_lt_of_pos _ (by omega)⟩
 obtain ⟨hpx,hph⟩:=hf.page hpg
 have hcpg:=fun Y (hY:zaa Y q (zfn s t) 167)=> zoo q s t Y hY (by omega) (by omega) (by omega)
 have hcpp:=fun Y=> planPage_any s.p s.c s.m (t.page s) Y
 have hcph:=fun Y=> zcd 1 t.c 0 Y
 rw [hpx] at hcpp
 obtain ⟨r,hr⟩:∃ r,r=ze7 s t m:=⟨_,rfl⟩
 rw [<- hr]
 unfold ze7 at hr
 rw [if_neg (by rw [hd];decide)] at hr
 dsimp only at hr
 rw [hpx] at hr
 have hlp:=fun Y (hY:zaq Y p b m)=> zc1 p b m t.c (s.c + t.page s) Y hY hph hs
 have hsw:=fun Y (hY:zaq Y p b m)=> zff p b m t.c (s.c + t.page s) 0 (zf4 t.c) Y hY hph (zc0 _ _ _) hs
 generalize s.c + t.page s=pa at hlp hsw hcpp hr
 generalize hpgq:t.page s=pg at hcpg hcpp
 have w1:=wrp (t.many + 1)
 clear hpgq hph hpx hpg ho hf hmn hfi hc hbd
 have hhw:Hid (zf4 t.c=zb8 1 t.c 0):=hd' rfl
 rw [<- hhw.out] at hcph
 clear hhw
 generalize zf4 t.c=hw at hcph hsw hr
 have hcs:m.get pa=0\/(¬ m.get pa=0/\(m.get pa==0)=false/\decide (m.get pa=0)=false):=by
  by_cases h:m.get pa=0
  ·exact .inl h
  ·exact .inr ⟨h,by simpa using h,decide_eq_false h⟩
 rcases Bool.eq_false_or_eq_true t.empty with hem | hem
 ·rw [if_neg (by rw [hem];decide)] at hr
  obtain ⟨t2,ht2,ht2'⟩:∃ t2:Pc,Hid (t2=if m.get pa=0 then { t with found:=true,done:=true } else { t with empty:=false,many:=t.many + 1,done:=decide (t.many + 1=s.p) })/\t2=_:=⟨_,hd' rfl,rfl⟩
  rw [<- ht2'] at hr
  clear ht2' hlp
  subst hr
  obtain ⟨g,hg⟩:∃ g,g=decide (m.get pa=0):=⟨_,rfl⟩
  rw [<- hg] at hsw hcs
  replace hcs:(m.get pa=0/\g=true)\/(¬ m.get pa=0/\g=false):=hcs.elim (fun h=> .inl ⟨h,by rw [hg,decide_eq_true h]⟩) (fun h=> .inr ⟨h.1,h.2.2⟩)
  clear hg
  obtain ⟨tc,tf,tm,tempty,tfound,tdone⟩:=t
  obtain ⟨sp,sc,sm⟩:=s
  dsimp only at hd hem hsw hcpg hcpp hcph ht2 w1 ⊢
  subst hd hem
  replace hsw:=hd' hsw
  replace hcpg:=hd' hcpg
  replace hcpp:=hd' hcpp
  replace hcph:=hd' hcph
  have lq:=h0.lt
  obtain ⟨c0,c1,c2,c3,c4,c5⟩:=ci6 sp sc sm tc tf tm h0.cell
  have c6:=ce (.bool true) (h0.cell 6)
  have c7:=ce (.bool tfound) (h0.cell 7)
  have c8:=ce (.bool false) (h0.cell 8)
  go_enter Tryz.func187,Tryz.ntmps187
  go_upto_region 1 with fail
  refine zaj (by kernel_rfl) (by kernel_rfl) ?_
  repeat (go_big_quiet_step ((first | (go_at_call 90;exact zam (hcpg.out _ (h0.row.below (Ext.below _)))) | (go_at_call 59;exact zam (hcpp.out _)) | fail)))
  refine wpQuiet_nil ?_
  rintro _ ⟨e',rfl⟩
  have hX:=h0.below e'.below
  generalize e'.w=X at *
  clear c0 c1 c2 c3 c4 c5 c6 c7 c8 h0 lq
  have k3:=ci tc (hX.cell 3)
  have k6:=ce (.bool true) (hX.cell 6)
  go_upto_region 5 with fail
  have lX:=hX.lt
  refine zad 12 (by kernel_rfl) (by kernel_rfl) ?_
  dsimp only [List.take,List.drop]
  repeat (go_big_quiet_step ((first | (go_at_call 119;exact zam (hcph.out _)) | fail)))
  refine wpQuiet_nil ?_
  rintro _ ⟨e',rfl⟩
  have hZ:=hX.below e'.below
  generalize e'.w=Z at *
  change wpList _ _ _ _ _ Z
  rcases hcs with ⟨hne,rfl⟩ | ⟨hne,rfl⟩
  ·replace ht2:=hd' (ht2.out.trans (if_pos hne))
   clear hne
   go_wp2_with (first | (go_at_call 126;(with_reducible refine (hsw.out _ hZ.wds).mono ?_);rintro r w2 ⟨rfl,hw2,ho2⟩;have hA:=hZ.access hw2 ho2;have y7:=ce (.bool tfound) (hA.cell 7);have y8:=ce (.bool false) (hA.cell 8);have zf:=hA.free) | fail)
   go_returns
   exact ((hA.set 7 _).set 8 _).fin (by rw [ht2.out];rfl) rfl
  ·replace ht2:=hd' (ht2.out.trans (if_neg hne))
   clear hne
   go_upto_region 9 with (first | (go_at_call 126;(with_reducible refine (hsw.out _ hZ.wds).mono ?_);rintro r w2 ⟨rfl,hw2,ho2⟩;have hA:=hZ.access hw2 ho2;have y5:=ci tm (hA.cell 5);have y6:=ce (.bool true) (hA.cell 6);have zf:=hA.free) | fail)
   have hB:=(hA.set 6 (.bool false)).set 5 (.int .i64 (tm + 1))
   clear hA y5 y6 zf
   generalize World.setCell _ ⟨q,5,.none⟩ (.int .i64 (tm + 1))=U at *
   have u0:=ci sp (hB.cell 0)
   have u5:=ci (tm + 1) (hB.cell 5)
   have lU:=hB.lt
   refine zad 13 (by kernel_rfl) (by kernel_rfl) ?_
   dsimp only [List.take,List.drop]
   repeat (go_big_quiet_step (fail))
   refine wpQuiet_nil ?_
   rintro _ ⟨e',rfl⟩
   have hC:=hB.below e'.below
   generalize e'.w=T at *
   change wpList _ _ _ _ _ T
   have v8:=ce (.bool false) (hC.cell 8)
   have zf:=hC.free
   go_wp2_with fail
   go_returns
   exact (hC.set 8 _).fin (by rw [ht2.out];rfl) rfl
 ·rw [if_pos hem] at hr
  obtain ⟨t2,ht2,ht2'⟩:∃ t2:Pc,Hid (t2=if m.get pa=0 then { t with empty:=true } else { t with empty:=false,many:=t.many + 1,done:=decide (t.many + 1=s.p) })/\t2=_:=⟨_,hd' rfl,rfl⟩
  rw [<- ht2'] at hr
  clear ht2' hsw hcph
  subst hr
  obtain ⟨x,hx⟩:∃ x,x=m.get pa:=⟨_,rfl⟩
  rw [<- hx] at hlp hcs ht2
  clear hx
  obtain ⟨tc,tf,tm,tempty,tfound,tdone⟩:=t
  obtain ⟨sp,sc,sm⟩:=s
  dsimp only at hd hem hlp hcpg hcpp ht2 w1 ⊢
  subst hd hem
  replace hlp:=hd' hlp
  replace hcpg:=hd' hcpg
  replace hcpp:=hd' hcpp
  have lq:=h0.lt
  obtain ⟨c0,c1,c2,c3,c4,c5⟩:=ci6 sp sc sm tc tf tm h0.cell
  have c6:=ce (.bool false) (h0.cell 6)
  have c7:=ce (.bool tfound) (h0.cell 7)
  have c8:=ce (.bool false) (h0.cell 8)
  go_enter Tryz.func187,Tryz.ntmps187
  go_upto_region 1 with fail
  refine zaj (by kernel_rfl) (by kernel_rfl) ?_
  repeat (go_big_quiet_step ((first | (go_at_call 90;exact zam (hcpg.out _ (h0.row.below (Ext.below _)))) | (go_at_call 59;exact zam (hcpp.out _)) | fail)))
  refine wpQuiet_nil ?_
  rintro _ ⟨e',rfl⟩
  have hX:=h0.below e'.below
  generalize e'.w=X at *
  clear c0 c1 c2 c3 c4 c5 c6 c7 c8 h0 lq
  have k3:=ci tc (hX.cell 3)
  have k6:=ce (.bool false) (hX.cell 6)
  rcases hcs with rfl | ⟨hne,hcs,_⟩
  ·replace ht2:=hd' (ht2.out.trans (if_pos rfl))
   go_wp2_with (first | (go_at_call 123;(with_reducible refine (hlp.out _ hX.wds).mono ?_);rintro r w2 ⟨rfl,hw2,ho2⟩;have hA:=hX.load hw2 ho2;have y6:=ce (.bool false) (hA.cell 6);have zf:=hA.free) | fail)
   go_returns
   exact (hA.set 6 _).fin (by rw [ht2.out];rfl) rfl
  ·replace ht2:=hd' (ht2.out.trans (if_neg hne))
   clear hne
   go_upto_region 9 with (first | (go_at_call 123;(with_reducible refine (hlp.out _ hX.wds).mono ?_);rintro r w2 ⟨rfl,hw2,ho2⟩;have hA:=hX.load hw2 ho2;have y5:=ci tm (hA.cell 5);have y6:=ce (.bool false) (hA.cell 6);have zf:=hA.free) | fail)
   have hB:=((hA.set 6 (.bool false)).set 6 (.bool false)).set 5 (.int .i64 (tm + 1))
   clear hA y5 y6 zf
   generalize World.setCell _ ⟨q,5,.none⟩ (.int .i64 (tm + 1))=U at *
   have u0:=ci sp (hB.cell 0)
   have u5:=ci (tm + 1) (hB.cell 5)
   have lU:=hB.lt
   refine zad 13 (by kernel_rfl) (by kernel_rfl) ?_
   dsimp only [List.take,List.drop]
   repeat (go_big_quiet_step (fail))
   refine wpQuiet_nil ?_
   rintro _ ⟨e',rfl⟩
   have hC:=hB.below e'.below
   generalize e'.w=T at *
   change wpList _ _ _ _ _ T
   have v8:=ce (.bool false) (hC.cell 8)
   have zf:=hC.free
   go_wp2_with fail
   go_returns
   exact (hC.set 8 _).fin (by rw [ht2.out];rfl) rfl
theorem zox (q p b:Nat) (s:Sh) (t:Sp) (m:Mem) (w:World) (hq:zaa w q (zc9 s t) 170) (hw:zaq w p b m) (hqp:q≠p) (hqb:q≠b) (hf:Fits s m) (ho:spOk s t) (hs:m.st < 1000000000):
  Calls Tryz.prog 129 #[.pointer (some ⟨q,0,.none⟩),.pointer (some ⟨p,0,.none⟩)] w fun e w'=> Stepped q p b w w' e (zc9 s (zdu s t m).1) 170 (zdu s t m).2:=by
 have h0:=At3.start hq hw hqp hqb
 clear hq hw
 rcases Bool.eq_false_or_eq_true t.done with hd | hd
 ·have hr:zdu s t m=(t,m):=by unfold zdu;rw [if_pos hd]
  rw [hr]
  clear hr
  have c9:w.cell? ⟨q,9,.none⟩=some (.bool true):=by rw [<- hd];exact h0.cell 9
  clear ho hd hf
  go_enter Tryz.func129,Tryz.ntmps129
  go_wp2_with fail
  go_returns
  exact h0.fin rfl rfl
 obtain ⟨hc,hpg,hk,hi,hbk⟩:=ho.cl hd
 have hbd:=hf.bd
 have hsr:=zdg hk
 obtain ⟨hpx,hph⟩:=hf.page hpg
 have hcpp:=fun Y=> planPage_any s.p s.c s.m t.page Y
 rw [hpx] at hcpp
 have hcph:=fun Y=> zcd 1 t.c 0 Y
 have hcpo:=fun Y=> zbl 1 t.k Y
 have hcpw:=fun Y=> zbl 2 t.c Y
 have hcss:=fun Y=> slots_any t.k Y
 obtain ⟨r,hr⟩:∃ r,r=zdu s t m:=⟨_,rfl⟩
 rw [<- hr]
 unfold zdu at hr
 rw [if_neg (by rw [hd];decide)] at hr
 have hhw:Hid (zf4 t.c=zb8 1 t.c 0):=hd' rfl
 have hop:Hid (zc8 t.k=zc3 1 t.k):=hd' rfl
 have hwy:Hid (wayW t.c=zc3 2 t.c):=hd' rfl
 rw [<- hhw.out] at hcph
 rw [<- hop.out] at hcpo
 rw [<- hwy.out] at hcpw
 have hhf:0<=zf4 t.c/\zf4 t.c < 18446744073709551616:=zc0 _ _ _
 have hof:0<=zc8 t.k/\zc8 t.k < 18446744073709551616:=zch _ _
 have hwf:0<=wayW t.c/\wayW t.c < 18446744073709551616:=zch _ _
 clear hhw hop hwy
 rw [hpx] at hr
 have w1:=wrp (t.i - 1)
 have w2:=wrp (t.i + 1)
 rcases Bool.eq_false_or_eq_true t.back with hb | hb
 ·rw [if_pos hb] at hr
  have hi1:=hbk hb
  obtain ⟨hsx,hsh⟩:=hf.slot hpg (i:=t.i - 1) (by omega)
  have hcsl:=fun Y=> zbm s.p s.c s.m t.page (t.i - 1) Y
  rw [hsx] at hcsl hr
  have hst:=fun Y (hY:zaq Y p b m)=> zba p b m t.c (s.c + s.p + t.page * 16 + (t.i - 1)) (zc8 t.k) Y hY hsh hof hs
  generalize s.c + s.p + t.page * 16 + (t.i - 1)=sa at hcsl hst hr
  generalize zc8 t.k=ow at *
  clear hcpp hcph hcpw hcss hsx hsh hph hpx ho hf hc hpg hbk hhf hof hwf w2 hbd hsr hk
  obtain ⟨t2,ht2,ht2'⟩:∃ t2:Sp,Hid (t2= { t with i:=t.i - 1,done:=decide (t.i - 1=0) })/\t2=_:=⟨_,hd' rfl,rfl⟩
  rw [<- ht2'] at hr
  clear ht2'
  subst hr
  obtain ⟨tc,tg,tk,ti,tback,theld,tdone⟩:=t
  obtain ⟨sp,sc,sm⟩:=s
  dsimp only at hd hb hst hcsl hcpo ht2 w1 ⊢
  subst hd hb
  replace hst:=hd' hst
  replace hcsl:=hd' hcsl
  replace hcpo:=hd' hcpo
  clear hi hi1
  have lq:=h0.lt
  obtain ⟨c0,c1,c2,c3,c4,c5,c6⟩:=ci7 sp sc sm tc tg tk ti h0.cell
  have c7:=ce (.bool true) (h0.cell 7)
  have c8:=ce (.bool theld) (h0.cell 8)
  have c9:=ce (.bool false) (h0.cell 9)
  go_enter Tryz.func129,Tryz.ntmps129
  go_upto_region 4 with (first | (go_at_call 121;(with_reducible refine (hcpo.out _).mono ?_);rintro r w1 ⟨rfl,hb1⟩;have hY:=h0.below hb1;have z0:=ci sp (hY.cell 0);have z1:=ci sc (hY.cell 1);have z2:=ci sm (hY.cell 2);have z3:=ci tc (hY.cell 3);have z4:=ci tg (hY.cell 4);have z5:=ci tk (hY.cell 5);have z6:=ci ti (hY.cell 6);have z7:=ce (.bool true) (hY.cell 7);have z8:=ce (.bool theld) (hY.cell 8);have z9:=ce (.bool false) (hY.cell 9)) | fail)
  have lY:=hY.lt
  clear c0 c1 c2 c3 c4 c5 c6 c7 c8 c9 h0 lq
  refine zad 20 (by kernel_rfl) (by kernel_rfl) ?_
  dsimp only [List.take,List.drop]
  repeat (go_big_quiet_step ((first | (go_at_call 120;exact zam (hcsl.out _)) | fail)))
  refine wpQuiet_nil ?_
  rintro _ ⟨e',rfl⟩
  have hZ:=hY.below e'.below
  generalize e'.w=Z at *
  change wpList _ _ _ _ _ Z
  clear z0 z1 z2 z3 z4 z5 z6 z7 z8 z9 hY lY
  go_wp2_with (first | (go_at_call 118;(with_reducible refine (hst.out _ hZ.wds).mono ?_);rintro r w2 ⟨rfl,hw2,ho2⟩;have hA:=hZ.access hw2 ho2;have y6:=ci ti (hA.cell 6);have y9:=ce (.bool false) (hA.cell 9);have zf:=hA.free) | fail)
  go_returns
  exact ((hA.set 6 _).set 9 _).fin (by rw [ht2.out];rfl) rfl
 ·rw [if_neg (by rw [hb];decide)] at hr
  have hcs:t.i=zah t.k\/(¬ t.i=zah t.k/\(t.i==zah t.k)=false):=by
   by_cases h:t.i=zah t.k
   ·exact .inl h
   ·exact .inr ⟨h,by simpa using h⟩
  rcases hcs with hcs | ⟨hcn,hcs⟩
  ·rw [if_pos hcs] at hr
   have hst:=fun Y (hY:zaq Y p b m)=> zba p b m t.c (s.c + t.page) (zf4 t.c) Y hY hph hhf hs
   generalize s.c + t.page=pa at hcpp hst hr
   generalize zc8 t.k=ow at *
   generalize zf4 t.c=hw at *
   clear hcpw hph hpx ho hf hc hpg hbk hhf hof hwf w2 w1 hbd hsr hk hi
   obtain ⟨t2,ht2,ht2'⟩:∃ t2:Sp,Hid (t2= { t with held:=true,done:=true })/\t2=_:=⟨_,hd' rfl,rfl⟩
   rw [<- ht2'] at hr
   clear ht2'
   subst hr
   rw [<- hcs] at hcss
   clear hcs
   obtain ⟨tc,tg,tk,ti,tback,theld,tdone⟩:=t
   obtain ⟨sp,sc,sm⟩:=s
   dsimp only at hd hb hst hcpp hcph hcpo hcss ht2 ⊢
   subst hd hb
   replace hst:=hd' hst
   replace hcpp:=hd' hcpp
   replace hcph:=hd' hcph
   replace hcpo:=hd' hcpo
   replace hcss:=hd' hcss
   have lq:=h0.lt
   obtain ⟨c0,c1,c2,c3,c4,c5,c6⟩:=ci7 sp sc sm tc tg tk ti h0.cell
   have c7:=ce (.bool false) (h0.cell 7)
   have c8:=ce (.bool theld) (h0.cell 8)
   have c9:=ce (.bool false) (h0.cell 9)
   go_enter Tryz.func129,Tryz.ntmps129
   go_upto_region 7 with (first | (go_at_call 121;(with_reducible refine (hcpo.out _).mono ?_);rintro r w1 ⟨rfl,hb1⟩;have hY:=h0.below hb1;have z0:=ci sp (hY.cell 0);have z1:=ci sc (hY.cell 1);have z2:=ci sm (hY.cell 2);have z3:=ci tc (hY.cell 3);have z4:=ci tg (hY.cell 4);have z5:=ci tk (hY.cell 5);have z6:=ci ti (hY.cell 6);have z7:=ce (.bool false) (hY.cell 7);have z8:=ce (.bool theld) (hY.cell 8);have z9:=ce (.bool false) (hY.cell 9)) | fail)
   have lY:=hY.lt
   clear c0 c1 c2 c3 c4 c5 c6 c7 c8 c9 h0 lq
   refine zaj (by kernel_rfl) (by kernel_rfl) ?_
   repeat (go_big_quiet_step ((first | (go_at_call 58;exact zdx ((hcss.out _).mono fun _ _ h=> ⟨h.1,h.2⟩)) | fail)))
   refine wpQuiet_nil ?_
   rintro _ ⟨e',rfl⟩
   have hX:=hY.below e'.below
   generalize e'.w=X at *
   clear z0 z1 z2 z3 z4 z5 z6 z7 z8 z9 hY lY
   go_upto_region 8 with fail
   have lX:=hX.lt
   obtain ⟨k0,k1,k2,k3,k4⟩:=ci5 sp sc sm tc tg hX.cell
   refine zad 20 (by kernel_rfl) (by kernel_rfl) ?_
   dsimp only [List.take,List.drop]
   repeat (go_big_quiet_step ((first | (go_at_call 59;exact zam (hcpp.out _)) | (go_at_call 119;exact zam (hcph.out _)) | fail)))
   refine wpQuiet_nil ?_
   rintro _ ⟨e',rfl⟩
   have hZ:=hX.below e'.below
   generalize e'.w=Z at *
   change wpList _ _ _ _ _ Z
   clear k0 k1 k2 k3 k4 hX lX
   go_wp2_with (first | (go_at_call 118;(with_reducible refine (hst.out _ hZ.wds).mono ?_);rintro r w2 ⟨rfl,hw2,ho2⟩;have hA:=hZ.access hw2 ho2;have y8:=ce (.bool theld) (hA.cell 8);have y9:=ce (.bool false) (hA.cell 9);have zf:=hA.free) | fail)
   go_returns
   exact ((hA.set 8 _).set 9 _).fin (by rw [ht2.out];rfl) rfl
  ·rw [if_neg hcn] at hr
   obtain ⟨hsx,hsh⟩:=hf.slot hpg (i:=t.i) (by omega)
   have hcsl:=fun Y=> zbm s.p s.c s.m t.page t.i Y
   rw [hsx] at hcsl hr
   have hsw:=fun Y (hY:zaq Y p b m)=> zff p b m t.c (s.c + s.p + t.page * 16 + t.i) (zc8 t.k) (wayW t.c) Y hY hsh hwf hs
   generalize s.c + s.p + t.page * 16 + t.i=sa at hcsl hsw hr
   generalize zc8 t.k=ow at *
   generalize wayW t.c=ww at *
   obtain ⟨t2,ht2,ht2'⟩:∃ t2:Sp,Hid (t2=if m.get sa=ow then { t with i:=t.i + 1 } else { t with back:=true,done:=decide (t.i=0) })/\t2=_:=⟨_,hd' rfl,rfl⟩
   rw [<- ht2'] at hr
   clear ht2'
   subst hr
   have hgs:(m.get sa=ow/\decide (m.get sa=ow)=true)\/(¬ m.get sa=ow/\decide (m.get sa=ow)=false):=by
    by_cases h:m.get sa=ow
    ·exact .inl ⟨h,decide_eq_true h⟩
    ·exact .inr ⟨h,decide_eq_false h⟩
   generalize decide (m.get sa=ow)=g at hsw hgs
   generalize zah t.k=sv at *
   clear hcph hcpp hph hpx hsx hsh ho hf hc hpg hbk hhf hof hwf w1 hbd hsr hk hi hcn
   obtain ⟨tc,tg,tk,ti,tback,theld,tdone⟩:=t
   obtain ⟨sp,sc,sm⟩:=s
   dsimp only at hd hb hsw hcsl hcpo hcpw hcss ht2 w2 hcs ⊢
   subst hd hb
   replace hsw:=hd' hsw
   replace hcsl:=hd' hcsl
   replace hcpo:=hd' hcpo
   replace hcpw:=hd' hcpw
   replace hcss:=hd' hcss
   have lq:=h0.lt
   obtain ⟨c0,c1,c2,c3,c4,c5,c6⟩:=ci7 sp sc sm tc tg tk ti h0.cell
   have c7:=ce (.bool false) (h0.cell 7)
   have c8:=ce (.bool theld) (h0.cell 8)
   have c9:=ce (.bool false) (h0.cell 9)
   go_enter Tryz.func129,Tryz.ntmps129
   go_upto_region 7 with (first | (go_at_call 121;(with_reducible refine (hcpo.out _).mono ?_);rintro r w1 ⟨rfl,hb1⟩;have hY:=h0.below hb1;have z0:=ci sp (hY.cell 0);have z1:=ci sc (hY.cell 1);have z2:=ci sm (hY.cell 2);have z3:=ci tc (hY.cell 3);have z4:=ci tg (hY.cell 4);have z5:=ci tk (hY.cell 5);have z6:=ci ti (hY.cell 6);have z7:=ce (.bool false) (hY.cell 7);have z8:=ce (.bool theld) (hY.cell 8);have z9:=ce (.bool false) (hY.cell 9)) | fail)
   have lY:=hY.lt
   clear c0 c1 c2 c3 c4 c5 c6 c7 c8 c9 h0 lq
   refine zaj (by kernel_rfl) (by kernel_rfl) ?_
   repeat (go_big_quiet_step ((first | (go_at_call 58;exact zdx ((hcss.out _).mono fun _ _ h=> ⟨h.1,h.2⟩)) | fail)))
   refine wpQuiet_nil ?_
   rintro _ ⟨e',rfl⟩
   have hX:=hY.below e'.below
   generalize e'.w=X at *
   clear z0 z1 z2 z3 z4 z5 z6 z7 z8 z9 hY lY
   go_upto_region 10 with fail
   have lX:=hX.lt
   obtain ⟨k0,k1,k2,k3,k4,k5,k6⟩:=ci7 sp sc sm tc tg tk ti hX.cell
   rcases hgs with ⟨hne,rfl⟩ | ⟨hne,rfl⟩
   ·replace ht2:=hd' (ht2.out.trans (if_pos hne))
    clear hne
    refine zad 25 (by kernel_rfl) (by kernel_rfl) ?_
    dsimp only [List.take,List.drop]
    repeat (go_big_quiet_step ((first | (go_at_call 120;exact zam (hcsl.out _)) | (go_at_call 121;exact zam (hcpw.out _)) | fail)))
    refine wpQuiet_nil ?_
    rintro _ ⟨e',rfl⟩
    have hZ:=hX.below e'.below
    generalize e'.w=Z at *
    change wpList _ _ _ _ _ Z
    clear k0 k1 k2 k3 k4 k5 k6 hX lX
    go_wp2_with (first | (go_at_call 126;(with_reducible refine (hsw.out _ hZ.wds).mono ?_);rintro r w2 ⟨rfl,hw2,ho2⟩;have hA:=hZ.access hw2 ho2;have y6:=ci ti (hA.cell 6);have zf:=hA.free) | fail)
    go_returns
    exact (hA.set 6 _).fin (by rw [ht2.out];rfl) rfl
   ·replace ht2:=hd' (ht2.out.trans (if_neg hne))
    clear hne
    refine zad 25 (by kernel_rfl) (by kernel_rfl) ?_
    dsimp only [List.take,List.drop]
    repeat (go_big_quiet_step ((first | (go_at_call 120;exact zam (hcsl.out _)) | (go_at_call 121;exact zam (hcpw.out _)) | fail)))
    refine wpQuiet_nil ?_
    rintro _ ⟨e',rfl⟩
    have hZ:=hX.below e'.below
    generalize e'.w=Z at *
    change wpList _ _ _ _ _ Z
    clear k0 k1 k2 k3 k4 k5 k6 hX lX
    go_wp2_with (first | (go_at_call 126;(with_reducible refine (hsw.out _ hZ.wds).mono ?_);rintro r w2 ⟨rfl,hw2,ho2⟩;have hA:=hZ.access hw2 ho2;have y6:=ci ti (hA.cell 6);have y7:=ce (.bool false) (hA.cell 7);have y9:=ce (.bool false) (hA.cell 9);have zf:=hA.free) | fail)
    go_returns
    exact ((hA.set 7 _).set 9 _).fin (by rw [ht2.out];rfl) rfl
end Go.Proofs.YthgekdlegbmehaaGreat

/- Texts bound together: AdG AdH. -/
import Derived.Test.YtampacmmhhilaaaGreatBm23

set_option linter.all false
/- The Adopter in memory: ways. -/
namespace Go.Proofs.YtampacmmhhilaaaGreat

open Go.RowKit

attribute [local go_sem ↓] Go.wp_at_zero Go.wp_at_succ

theorem adStep_10 (s:Sh) (t:Ad) (m:Mem) (h:t.done=false) (h0:t.next=10):adStep s t m=(if readPageB s.p s.c s.m t.at' (m.get (pageIx s.p s.c s.m t.at'))=true∧pgK s t.at' (m.get (pageIx s.p s.c s.m t.at'))=2 then { t.page s t.at' (m.get (pageIx s.p s.c s.m t.at')) with next:=11,i:=0 } else (t.page s t.at' (m.get (pageIx s.p s.c s.m t.at'))).turn s 10 13,m.load t.c (pageIx s.p s.c s.m t.at')):=by
 unfold adStep
 simp [h,h0,ad_keep,ad_kind]
theorem adStep_11 (s:Sh) (t:Ad) (m:Mem) (h:t.done=false) (h0:t.next=11):adStep s t m=(if m.get (slotIx s.p s.c s.m t.at' t.i)=slotV 2 t.d then { t with next:=12 } else t.slot s,m.load t.c (slotIx s.p s.c s.m t.at' t.i)):=by
 unfold adStep
 simp [h,h0,wayW]
theorem adStep_12 (s:Sh) (t:Ad) (m:Mem) (h:t.done=false) (h0:t.next=12):adStep s t m=(t.slot s,m.store t.c (slotIx s.p s.c s.m t.at' t.i) (slotV 1 t.pa)):=by
 unfold adStep
 simp [h,h0,openW]
theorem adStep_13 (s:Sh) (t:Ad) (m:Mem) (h:t.done=false) (h0:t.next=13):adStep s t m=(t.fin 0,m.store t.c (statusIx s.p s.c s.m t.d) (statusV 4 0)):=by
 unfold adStep
 simp [h,h0]
set_option maxRecDepth 100000 in
set_option maxHeartbeats 2000000 in
theorem adways10 (q p b:Nat) (s:Sh) (t:Ad) (m:Mem) (w:World) (h0:At3 q p b w w (adCells s t) 281 m) (hf:Fits s m) (hs:m.st < 1000000000) (hdn:t.done=false) (hn:t.next=10) (hat:0≤t.at'∧t.at' < s.p):
  Calls Tryz.prog 302 #[.pointer (some ⟨q,0, .none⟩), .pointer (some ⟨p,0, .none⟩)] w fun e w'=> e= .returned (.tuple #[])∧At3 q p b w w' (adCells s (adStep s t m).1) 281 (adStep s t m).2:=by
 have hat64:0≤t.at'∧t.at' < 64:=by have:=hf.bd;omega
 rw [adStep_10 s t m hdn hn]
 have hrd:=adread_any q p b s t m t.at' w h0 hf hs hat
 generalize pageIx s.p s.c s.m t.at'=pg at *
 generalize m.get pg=x at *
 unfold Ad.page
 have htn:=fun Y (hY:RowAt Y q (adCells s { t with pk:=pgK s t.at' x,pa:=pgP s t.at' x 0,pb:=pgP s t.at' x 1 }) 281)=> adturn_any q s { t with pk:=pgK s t.at' x,pa:=pgP s t.at' x 0,pb:=pgP s t.at' x 1 } 10 13 Y hY hat64
 generalize readPageB s.p s.c s.m t.at' x=B at *
 generalize pgK s t.at' x=e0 at *
 generalize pgP s t.at' x 0=e1 at *
 generalize pgP s t.at' x 1=e2 at *
 dsimp only
 obtain ⟨t2,ht2,ht2'⟩:∃ t2:Ad,Hid (t2=if B=true∧e0=2 then { t with pk:=e0,pa:=e1,pb:=e2,next:=11,i:=0 } else ({ t with pk:=e0,pa:=e1,pb:=e2 }:Ad).turn s 10 13)∧t2=_:=⟨_,Lib.hid rfl,rfl⟩
 rw [← ht2']
 clear ht2' hat64
 obtain ⟨sp,sc,sm⟩:=s
 obtain ⟨tc,td,tn,tw,tby,ta,ti,pk,pa,pb,terr,tdone⟩:=t
 dsimp only at hdn hn hat hrd htn ht2 ⊢
 subst hdn hn
 replace hrd:=Lib.hid hrd
 replace htn:=Lib.hid htn
 have lq:=h0.lt
 have c5:w.cell? ⟨q,5, .none⟩=some (.int .i64 10):=h0.cell 5
 have c8:w.cell? ⟨q,8, .none⟩=some (.int .i64 ta):=h0.cell 8
 clear hf hs
 go_enter Tryz.func302,Tryz.ntmps302
 go_upto_region 5 with (first | (go_at_call 304;(with_reducible refine hrd.out.mono ?_);rintro r w1 ⟨rfl,hA⟩) | fail)
 have hBx:=hA.alloc (.cells #[.int .i64 e0, .int .i64 e1, .int .i64 e2] 160)
 have hE:RowAt (w1.alloc (.cells #[.int .i64 e0, .int .i64 e1, .int .i64 e2] 160)) w1.heap.size #[.int .i64 e0, .int .i64 e1, .int .i64 e2] 160:=heap_alloc_new _ _
 have hEq:w1.heap.size≠q:=fun e=> by have:=hA.lt;omega
 generalize w1.alloc (.cells #[.int .i64 e0, .int .i64 e1, .int .i64 e2] 160)=Y at *
 obtain ⟨E,hEE,hEE'⟩:∃ E,Hid (E=w1.heap.size)∧E=w1.heap.size:=⟨_,Lib.hid rfl,rfl⟩
 simp only [← hEE'] at hE hEq ⊢
 clear hEE' hEE hA c5 c8 hrd
 have lY:=hBx.lt
 have lE:=hE.lt
 have g0:Y.cell? ⟨E,0, .none⟩=some (.int .i64 e0):=hE.cell 0
 have g1:Y.cell? ⟨E,1, .none⟩=some (.int .i64 e1):=hE.cell 1
 have g2:Y.cell? ⟨E,2, .none⟩=some (.int .i64 e2):=hE.cell 2
 have c5:Y.cell? ⟨q,5, .none⟩=some (.int .i64 10):=hBx.cell 5
 have c9:Y.cell? ⟨q,9, .none⟩=some (.int .i64 ti):=hBx.cell 9
 have c10:Y.cell? ⟨q,10, .none⟩=some (.int .i64 pk):=hBx.cell 10
 have c11:Y.cell? ⟨q,11, .none⟩=some (.int .i64 pa):=hBx.cell 11
 have c12:Y.cell? ⟨q,12, .none⟩=some (.int .i64 pb):=hBx.cell 12
 have zf:=hBx.free
 have hC:=((hBx.set 10 (.int .i64 e0)).set 11 (.int .i64 e1)).set 12 (.int .i64 e2)
 by_cases hc:B=true∧e0=2
 ·replace ht2:=Lib.hid (ht2.out.trans (if_pos hc))
  obtain ⟨rfl,rfl⟩:=hc
  have hD:=((hC.set 5 (.int .i64 11)).set 9 (.int .i64 0))
  clear htn
  go_wp2_with fail
  go_returns
  exact ⟨rfl,by rw [ht2.out];exact hD⟩
 ·replace ht2:=Lib.hid (ht2.out.trans (if_neg hc))
  have hne:B=false∨(B=true∧(e0==2)=false):=by
   cases B
   ·exact .inl rfl
   ·exact .inr ⟨rfl,by simpa using hc⟩
  clear hc
  rcases hne with rfl | ⟨rfl,hne⟩
  all_goals
   go_wp2_with (first | (go_at_call 305;(with_reducible refine (htn.out _ hC.row).mono ?_);rintro r w3 hT;obtain rfl:=hT.ret) | fail)
   go_returns
   exact ⟨rfl,by rw [ht2.out];exact hC.turned hT⟩
set_option maxRecDepth 100000 in
set_option maxHeartbeats 2000000 in
theorem adways11 (q p b:Nat) (s:Sh) (t:Ad) (m:Mem) (w:World) (h0:At3 q p b w w (adCells s t) 281 m) (hf:Fits s m) (hs:m.st < 1000000000) (hdn:t.done=false) (hn:t.next=11) (hat:0≤t.at'∧t.at' < s.p) (hi:0≤t.i∧t.i < 16):
  Calls Tryz.prog 302 #[.pointer (some ⟨q,0, .none⟩), .pointer (some ⟨p,0, .none⟩)] w fun e w'=> e= .returned (.tuple #[])∧At3 q p b w w' (adCells s (adStep s t m).1) 281 (adStep s t m).2:=by
 have hat64:0≤t.at'∧t.at' < 64:=by have:=hf.bd;omega
 rw [adStep_11 s t m hdn hn]
 obtain ⟨hpx,hph⟩:=hf.slot hat hi
 have hcpp:=fun Y=> planSlot_any s.p s.c s.m t.at' t.i Y
 rw [hpx] at hcpp ⊢
 have hlp:=fun Y (hY:WdsAt Y p b m)=> wload_any p b m t.c (s.c + s.p + t.at' * 16 + t.i) Y hY hph hs
 have hps:=fun Y=> putSlot_any 2 t.d Y
 have hsl:=fun Y (hY:RowAt Y q (adCells s t) 281)=> adslot_any q s t Y hY hat64 hi
 generalize s.c + s.p + t.at' * 16 + t.i=pg at *
 generalize m.get pg=x at *
 generalize slotV 2 t.d=y at *
 dsimp only
 obtain ⟨t2,ht2,ht2'⟩:∃ t2:Ad,Hid (t2=if x=y then { t with next:=12 } else t.slot s)∧t2=_:=⟨_,Lib.hid rfl,rfl⟩
 rw [← ht2']
 clear ht2' hpx hph hf hat64 hi
 obtain ⟨sp,sc,sm⟩:=s
 obtain ⟨tc,td,tn,tw,tby,ta,ti,pk,pa,pb,terr,tdone⟩:=t
 dsimp only at hdn hn hat hcpp hlp hps hsl ht2 ⊢
 subst hdn hn
 replace hcpp:=Lib.hid hcpp
 replace hlp:=Lib.hid hlp
 replace hps:=Lib.hid hps
 replace hsl:=Lib.hid hsl
 have lq:=h0.lt
 have c5:w.cell? ⟨q,5, .none⟩=some (.int .i64 11):=h0.cell 5
 clear hat
 go_enter Tryz.func302,Tryz.ntmps302
 go_upto_region 10 with fail
 refine wp_region_loud (x:=noVar 2) (ld:=18) (v:= .int .u64 x) (ts:= [60,64,77])
  (K0:=fun Y=> At3 q p b w Y (adCells ⟨sp,sc,sm⟩ ⟨tc,td,11,tw,tby,ta,ti,pk,pa,pb,terr,false⟩) 281 m) (K1:=fun Y=> At3 q p b w Y (adCells ⟨sp,sc,sm⟩ ⟨tc,td,11,tw,tby,ta,ti,pk,pa,pb,terr,false⟩) 281 (m.load tc pg))
  (by kernel_rfl) (by simp only [noVar,nopMF,nopM1,nopO,nopC,Nat.reduceBEq,Bool.or_false,Bool.or_true,Bool.false_eq_true,↓reduceIte,Nat.reduceAdd];exact rfl) (by kernel_rfl) (by kernel_rfl) (by kernel_rfl) (by simp [noVar]) (by simp [noVar]) (by simp [noVar]) (by simp [noVar]) (by kernel_rfl) (by simp [noVar]) (by simp [noVar])
  ⟨⟨fun Y Y' h1 h2 h3=> h1.far h2 h3 h0.only.size⟩,⟨fun Y Y' h1 h2 h3=> h1.far h2 h3 h0.only.size⟩⟩ h0.drew ?_
 apply Exists.intro
 refine ⟨fun B hb hs=> ?_,fun h=> (by simp [noVar] at h),?_,?_⟩
 case refine_1=>
  have hrB:RowAt B q (adCells ⟨sp,sc,sm⟩ ⟨tc,td,11,tw,tby,ta,ti,pk,pa,pb,terr,false⟩) 281:=hb.elim (fun h=> h.row) (fun h=> h.row)
  have lB:=hrB.lt
  have k0:B.cell? ⟨q,0, .none⟩=some (.int .i64 sp):=hrB.cell 0
  have k1:B.cell? ⟨q,1, .none⟩=some (.int .i64 sc):=hrB.cell 1
  have k2:B.cell? ⟨q,2, .none⟩=some (.int .i64 sm):=hrB.cell 2
  have k3:B.cell? ⟨q,3, .none⟩=some (.int .i64 tc):=hrB.cell 3
  have k4:B.cell? ⟨q,4, .none⟩=some (.int .i64 td):=hrB.cell 4
  have k8:B.cell? ⟨q,8, .none⟩=some (.int .i64 ta):=hrB.cell 8
  have k9:B.cell? ⟨q,9, .none⟩=some (.int .i64 ti):=hrB.cell 9
  repeat (go_big_quiet_step ((first | (go_at_call 138;exact ext_of (hcpp.out _)) | (go_at_call 169;exact ext_of (hps.out _)) | fail)))
  exact wpQuiet_nil rfl
 case refine_2=> exact loud_step rfl (fun _ _=> by simp [go_sem]) fun Y hY2 hs=> (hlp.out Y hY2.wds).mono fun r Y' ⟨h1,h2,h3⟩=> ⟨h1,hY2.load h2 h3,h3.weak fun k hk=> hk ▸ Nat.lt_of_lt_of_le hY2.ls.2.1 h0.only.size⟩
 case refine_3=>
  intro a w4 M hf
  obtain ⟨rfl,hbig,hA,_⟩:=hf
  simp only [noVar,vput,List.size_toArray,List.length_cons,List.length_nil,Nat.reduceAdd,Nat.reduceLT,decide_false,Bool.false_eq_true,if_false]
  have z5:w4.cell? ⟨q,5, .none⟩=some (.int .i64 11):=hA.cell 5
  have zf:=hA.free
  have lA:=hA.lt
  clear h0 hlp hcpp hps c5
  rcases (by by_cases h:x=y <;> simp [h]:x=y∨(x≠y∧(x==y)=false)) with rfl | ⟨hk,hk2⟩
  ·replace ht2:=Lib.hid (ht2.out.trans (if_pos rfl))
   clear hsl
   go_wp2_with fail
   go_returns
   exact ⟨rfl,by rw [ht2.out];exact hA.set 5 _⟩
  ·replace ht2:=Lib.hid (ht2.out.trans (if_neg hk))
   go_wp2_with (first | (go_at_call 299;(with_reducible refine (hsl.out _ hA.row).mono ?_);rintro r w3 hT;obtain rfl:=hT.ret) | fail)
   go_returns
   exact ⟨rfl,by rw [ht2.out];exact hA.turned hT⟩
set_option maxRecDepth 100000 in
set_option maxHeartbeats 2000000 in
theorem adways12 (q p b:Nat) (s:Sh) (t:Ad) (m:Mem) (w:World) (h0:At3 q p b w w (adCells s t) 281 m) (hf:Fits s m) (hs:m.st < 1000000000) (hdn:t.done=false) (hn:t.next=12) (hat:0≤t.at'∧t.at' < s.p) (hi:0≤t.i∧t.i < 16):
  Calls Tryz.prog 302 #[.pointer (some ⟨q,0, .none⟩), .pointer (some ⟨p,0, .none⟩)] w fun e w'=> e= .returned (.tuple #[])∧At3 q p b w w' (adCells s (adStep s t m).1) 281 (adStep s t m).2:=by
 have hat64:0≤t.at'∧t.at' < 64:=by have:=hf.bd;omega
 rw [adStep_12 s t m hdn hn]
 obtain ⟨hpx,hph⟩:=hf.slot hat hi
 have hcpp:=fun Y=> planSlot_any s.p s.c s.m t.at' t.i Y
 rw [hpx] at hcpp ⊢
 have hst:=fun Y (hY:WdsAt Y p b m)=> wstore_any p b m t.c (s.c + s.p + t.at' * 16 + t.i) (slotV 1 t.pa) Y hY hph (slotV_u64 _ _) hs
 have hps:=fun Y=> putSlot_any 1 t.pa Y
 have hsl:=fun Y (hY:RowAt Y q (adCells s t) 281)=> adslot_any q s t Y hY hat64 hi
 generalize s.c + s.p + t.at' * 16 + t.i=pg at *
 generalize slotV 1 t.pa=y at *
 dsimp only
 obtain ⟨t2,ht2⟩:∃ t2,t2=t.slot s:=⟨_,rfl⟩
 rw [← ht2] at hsl ⊢
 clear ht2 hpx hph hf hat64 hi
 obtain ⟨sp,sc,sm⟩:=s
 obtain ⟨tc,td,tn,tw,tby,ta,ti,pk,pa,pb,terr,tdone⟩:=t
 dsimp only at hdn hn hat hcpp hst hps hsl ⊢
 subst hdn hn
 replace hcpp:=Lib.hid hcpp
 replace hst:=Lib.hid hst
 replace hps:=Lib.hid hps
 replace hsl:=Lib.hid hsl
 have lq:=h0.lt
 have c0:w.cell? ⟨q,0, .none⟩=some (.int .i64 sp):=h0.cell 0
 have c1:w.cell? ⟨q,1, .none⟩=some (.int .i64 sc):=h0.cell 1
 have c2:w.cell? ⟨q,2, .none⟩=some (.int .i64 sm):=h0.cell 2
 have c3:w.cell? ⟨q,3, .none⟩=some (.int .i64 tc):=h0.cell 3
 have c5:w.cell? ⟨q,5, .none⟩=some (.int .i64 12):=h0.cell 5
 have c8:w.cell? ⟨q,8, .none⟩=some (.int .i64 ta):=h0.cell 8
 have c9:w.cell? ⟨q,9, .none⟩=some (.int .i64 ti):=h0.cell 9
 have c11:w.cell? ⟨q,11, .none⟩=some (.int .i64 pa):=h0.cell 11
 clear hat
 go_enter Tryz.func302,Tryz.ntmps302
 go_upto_region 14 with fail
 refine wp_region_ext_tail 25 (by kernel_rfl) (by kernel_rfl) ?_
 dsimp only [List.take,List.drop]
 repeat (go_big_quiet_step ((first | (go_at_call 138;exact ext_of (hcpp.out _)) | (go_at_call 169;exact ext_of (hps.out _)) | fail)))
 refine wpQuiet_nil ?_
 rintro _ ⟨e',rfl⟩
 have hZ:=h0.below e'.below
 generalize e'.w=Z at *
 change wpList _ _ _ _ _ Z
 clear lq h0
 go_wp2_with (first
  | (go_at_call 262;(with_reducible refine (hst.out _ hZ.wds).mono ?_);rintro r w2 ⟨rfl,hw2,ho2⟩;have hA:=hZ.access hw2 ho2)
  | (go_at_call 299;(with_reducible refine (hsl.out _ hA.row).mono ?_);rintro r w3 hT;obtain rfl:=hT.ret)
  | fail)
 go_returns
 exact ⟨rfl,hA.turned hT⟩
set_option maxRecDepth 100000 in
set_option maxHeartbeats 2000000 in
theorem adways13 (q p b:Nat) (s:Sh) (t:Ad) (m:Mem) (w:World) (h0:At3 q p b w w (adCells s t) 281 m) (hf:Fits s m) (hs:m.st < 1000000000) (hdn:t.done=false) (hn:t.next=13) (hat:0≤t.at'∧t.at' < s.p) (hd:0≤t.d∧t.d < s.c):
  Calls Tryz.prog 302 #[.pointer (some ⟨q,0, .none⟩), .pointer (some ⟨p,0, .none⟩)] w fun e w'=> e= .returned (.tuple #[])∧At3 q p b w w' (adCells s (adStep s t m).1) 281 (adStep s t m).2:=by
 have hat64:0≤t.at'∧t.at' < 64:=by have:=hf.bd;omega
 rw [adStep_13 s t m hdn hn]
 obtain ⟨hpx,hph⟩:=hf.status hd
 have hcpp:=fun Y=> planStatus_any s.p s.c s.m t.d Y
 rw [hpx] at hcpp ⊢
 have hst:=fun Y (hY:WdsAt Y p b m)=> wstore_any p b m t.c t.d (statusV 4 0) Y hY hph (statusV_u64 _ _) hs
 have hps:=fun Y=> status_any 4 0 Y
 have hend:=fun Y (hY:RowAt Y q (adCells s t) 281)=> adend_any q s t 0 Y hY
 generalize statusV 4 0=y at *
 dsimp only
 obtain ⟨t2,ht2⟩:∃ t2,t2=t.fin 0:=⟨_,rfl⟩
 rw [← ht2] at hend ⊢
 clear ht2 hpx hph hf hat64 hd
 obtain ⟨sp,sc,sm⟩:=s
 obtain ⟨tc,td,tn,tw,tby,ta,ti,pk,pa,pb,terr,tdone⟩:=t
 dsimp only at hdn hn hat hcpp hst hps hend ⊢
 subst hdn hn
 replace hcpp:=Lib.hid hcpp
 replace hst:=Lib.hid hst
 replace hps:=Lib.hid hps
 replace hend:=Lib.hid hend
 have lq:=h0.lt
 have c0:w.cell? ⟨q,0, .none⟩=some (.int .i64 sp):=h0.cell 0
 have c1:w.cell? ⟨q,1, .none⟩=some (.int .i64 sc):=h0.cell 1
 have c2:w.cell? ⟨q,2, .none⟩=some (.int .i64 sm):=h0.cell 2
 have c3:w.cell? ⟨q,3, .none⟩=some (.int .i64 tc):=h0.cell 3
 have c4:w.cell? ⟨q,4, .none⟩=some (.int .i64 td):=h0.cell 4
 have c5:w.cell? ⟨q,5, .none⟩=some (.int .i64 13):=h0.cell 5
 clear hat
 go_enter Tryz.func302,Tryz.ntmps302
 go_upto_region 1 with fail
 refine wp_region_ext_tail 15 (by kernel_rfl) (by kernel_rfl) ?_
 dsimp only [List.take,List.drop]
 repeat (go_big_quiet_step ((first | (go_at_call 67;exact ext_of (hcpp.out _)) | (go_at_call 119;exact ext_of (hps.out _)) | fail)))
 refine wpQuiet_nil ?_
 rintro _ ⟨e',rfl⟩
 have hZ:=h0.below e'.below
 generalize e'.w=Z at *
 change wpList _ _ _ _ _ Z
 clear lq h0
 go_wp2_with (first
  | (go_at_call 262;(with_reducible refine (hst.out _ hZ.wds).mono ?_);rintro r w2 ⟨rfl,hw2,ho2⟩;have hA:=hZ.access hw2 ho2)
  | (go_at_call 180;(with_reducible refine (hend.out _ hA.row).mono ?_);rintro r w3 hT;obtain rfl:=hT.ret)
  | fail)
 go_returns
 exact ⟨rfl,hA.turned hT⟩
end Go.Proofs.YtampacmmhhilaaaGreat
/- The Adopter in memory: what it keeps (plain), and Step. -/
namespace Go.Proofs.YtampacmmhhilaaaGreat

open Go.RowKit

attribute [local go_sem ↓] Go.wp_at_zero Go.wp_at_succ

theorem adStep_9 (s:Sh) (t:Ad) (m:Mem) (h:t.done=false) (h0:t.next=9):adStep s t m=(if t.i + 1=s.m then { t with i:=0,next:=10 } else { t with i:=t.i + 1 },m.store t.c (magIx s.p s.c s.m t.d t.i) 0):=by
 unfold adStep
 simp [h,h0]
theorem adStep_end (s:Sh) (t:Ad) (m:Mem) (h:t.done=true):adStep s t m=(t,m):=by
 unfold adStep
 simp [h]
/-- What an Adopter keeps. -/
structure adOk (s:Sh) (t:Ad):Prop where
 cl:t.done=false→mayB s.p s.c s.m=true∧(0≤t.c∧t.c < s.c)∧(0≤t.d∧t.d < s.c)∧(0≤t.next∧t.next≤13)∧(0≤t.at'∧t.at' < s.p)∧(t.next=1→0≤t.who∧t.who < s.c)∧(t.next=4→0≤t.pa∧t.pa < s.p)∧
  (t.next=7→0≤t.i∧t.i < 16)∧(t.next=9→0≤t.i∧t.i < s.m)∧(t.next=11∨t.next=12→0 < slotsV t.pa∧0≤t.i∧t.i < slotsV t.pa)
theorem adEnd_ok {s:Sh} (t:Ad) (e:Int):adOk s (t.fin e):=⟨fun h=> by cases h⟩
theorem adNew_ok (s:Sh) (c d:Int):adOk s (adNew s c d):=by
 unfold adNew
 dsimp only
 split
 ·exact adEnd_ok _ _
 ·rename_i h
  have h1:=statusIx_ok (by omega:0≤statusIx s.p s.c s.m c)
  have h2:=statusIx_ok (by omega:0≤statusIx s.p s.c s.m d)
  have hb:=mayB_iff.1 h1.1
  exact ⟨fun _=> ⟨h1.1,h1.2,h2.2,by dsimp only;omega,by dsimp only;omega,fun e=> by dsimp only at e;omega,fun e=> by dsimp only at e;omega,fun e=> by dsimp only at e;omega,fun e=> by dsimp only at e;omega,fun e=> by dsimp only at e;omega⟩⟩
theorem adTurn_ok {s:Sh} {t:Ad} {again next:Int} (h1:mayB s.p s.c s.m=true) (h2:0≤t.c∧t.c < s.c) (h3:0≤t.d∧t.d < s.c) (h4:0≤t.at'∧t.at' < s.p) (ha:again=3∨again=6∨again=10) (hn:next=6∨next=9∨next=13):adOk s (t.turn s again next):=by
 have hb:=mayB_iff.1 h1
 have hk:=ad_turns s t again next
 simp only [beq_eq_false_iff_ne,ne_eq] at hk
 rcases hk with ⟨k1,k2,k3,e⟩ | ⟨k1,k2,k3,e⟩ | ⟨k1,k2,e⟩ | ⟨k1,k2,k3,e⟩ | ⟨k1,k2,k3,e⟩ | ⟨k1,k2,e⟩
 all_goals
  rw [e]
  refine ⟨fun _=> ⟨h1,h2,h3,?_,?_,fun e=> ?_,fun e=> ?_,fun e=> ?_,fun e=> ?_,fun e=> ?_⟩⟩
  all_goals try dsimp only at e
  all_goals dsimp only
  all_goals omega
theorem adSlot_ok {s:Sh} {t:Ad} (h1:mayB s.p s.c s.m=true) (h2:0≤t.c∧t.c < s.c) (h3:0≤t.d∧t.d < s.c) (h4:0≤t.at'∧t.at' < s.p) (h5:0 < slotsV t.pa∧0≤t.i∧t.i < slotsV t.pa):adOk s (t.slot s):=by
 unfold Ad.slot
 split
 ·exact adTurn_ok h1 h2 h3 h4 (.inr (.inr rfl)) (.inr (.inr rfl))
 ·refine ⟨fun _=> ⟨h1,h2,h3,?_,h4,fun e=> ?_,fun e=> ?_,fun e=> ?_,fun e=> ?_,fun e=> ?_⟩⟩
  all_goals try dsimp only at e
  all_goals dsimp only
  all_goals omega
theorem adStep_ok {s:Sh} {t:Ad} (m:Mem) (h:adOk s t):adOk s (adStep s t m).1:=by
 rcases Bool.eq_false_or_eq_true t.done with hd | hd
 ·rw [adStep_end s t m hd];exact h
 obtain ⟨h1,h2,h3,h4,h5,c1,c4,c7,c9,c11⟩:=h.cl hd
 have hb:=mayB_iff.1 h1
 have stay:∀ (u:Ad),u.c=t.c→u.d=t.d→u.at'=t.at'→(0≤u.next∧u.next≤13)→u.next≠1→u.next≠4→(u.next=7→0≤u.i∧u.i < 16)→(u.next=9→0≤u.i∧u.i < s.m)→(u.next=11∨u.next=12→0 < slotsV u.pa∧0≤u.i∧u.i < slotsV u.pa)→adOk s u:=fun u e1 e2 e3 e4 e5 e6 e7 e9 e11=>
  ⟨fun _=> ⟨h1,by rw [e1];exact h2,by rw [e2];exact h3,e4,by rw [e3];exact h5,fun e=> absurd e e5,fun e=> absurd e e6,e7,e9,e11⟩⟩
 have turn:∀ (u:Ad) again next,u.c=t.c→u.d=t.d→u.at'=t.at'→(again=3∨again=6∨again=10)→(next=6∨next=9∨next=13)→adOk s (u.turn s again next):=fun u a n e1 e2 e3 ha hn=>
  adTurn_ok h1 (by rw [e1];exact h2) (by rw [e2];exact h3) (by rw [e3];exact h5) ha hn
 rcases (by omega:t.next=0∨t.next=1∨t.next=2∨t.next=3∨t.next=4∨t.next=5∨t.next=6∨t.next=7∨t.next=8∨t.next=9∨t.next=10∨t.next=11∨t.next=12∨t.next=13) with n | n | n | n | n | n | n | n | n | n | n | n | n | n
 ·rw [adStep_0 s t m hd n]
  unfold Ad.asked
  dsimp only
  split
  ·exact stay _ rfl rfl rfl (by dsimp only;omega) (by dsimp only;omega) (by dsimp only;omega) (fun e=> by dsimp only at e;omega) (fun e=> by dsimp only at e;omega) (fun e=> by dsimp only at e;omega)
  split
  ·exact adEnd_ok _ _
  split
  ·exact adEnd_ok _ _
  ·rename_i hx
   have hx:=statusIx_ok (by omega:0≤statusIx s.p s.c s.m (statusA (m.get (statusIx s.p s.c s.m t.d))))
   exact ⟨fun _=> ⟨h1,h2,h3,by dsimp only;omega,h5,fun _=> hx.2,fun e=> by dsimp only at e;omega,fun e=> by dsimp only at e;omega,fun e=> by dsimp only at e;omega,fun e=> by dsimp only at e;omega⟩⟩
 ·rw [adStep_1 s t m hd n]
  dsimp only
  split
  ·exact adEnd_ok _ _
  ·exact stay _ rfl rfl rfl (by dsimp only;omega) (by dsimp only;omega) (by dsimp only;omega) (fun e=> by dsimp only at e;omega) (fun e=> by dsimp only at e;omega) (fun e=> by dsimp only at e;omega)
 ·rw [adStep_2 s t m hd n]
  dsimp only
  split
  ·exact stay _ rfl rfl rfl (by dsimp only;omega) (by dsimp only;omega) (by dsimp only;omega) (fun e=> by dsimp only at e;omega) (fun e=> by dsimp only at e;omega) (fun e=> by dsimp only at e;omega)
  ·exact adEnd_ok _ _
 ·rw [adStep_3 s t m hd n]
  dsimp only
  split
  ·rename_i hk
   have hk':=(ad_kind s t.at' (m.get (pageIx s.p s.c s.m t.at')) 4).2 hk
   have hp:=readPage_body hk'.1 hk'.2
   refine ⟨fun _=> ⟨h1,h2,h3,by dsimp only;omega,h5,fun e=> by dsimp only at e;omega,fun _=> ?_,fun e=> by dsimp only at e;omega,fun e=> by dsimp only at e;omega,fun e=> by dsimp only at e;omega⟩⟩
   show 0≤pgP s t.at' (m.get (pageIx s.p s.c s.m t.at')) 0∧pgP s t.at' (m.get (pageIx s.p s.c s.m t.at')) 0 < s.p
   unfold pgP
   rw [if_pos hk.1]
   omega
  ·exact turn _ _ _ rfl rfl rfl (.inl rfl) (.inl rfl)
 ·rw [adStep_4 s t m hd n]
  dsimp only
  split
  ·exact stay _ rfl rfl rfl (by dsimp only;omega) (by dsimp only;omega) (by dsimp only;omega) (fun e=> by dsimp only at e;omega) (fun e=> by dsimp only at e;omega) (fun e=> by dsimp only at e;omega)
  ·exact turn _ _ _ rfl rfl rfl (.inl rfl) (.inl rfl)
 ·rw [adStep_5 s t m hd n]
  exact turn _ _ _ rfl rfl rfl (.inl rfl) (.inl rfl)
 ·rw [adStep_6 s t m hd n]
  dsimp only
  split
  ·exact stay _ rfl rfl rfl (by dsimp only;omega) (by dsimp only;omega) (by dsimp only;omega) (fun e=> by dsimp only;omega) (fun e=> by dsimp only at e;omega) (fun e=> by dsimp only at e;omega)
  ·exact turn _ _ _ rfl rfl rfl (.inr (.inl rfl)) (.inr (.inl rfl))
 ·rw [adStep_7 s t m hd n]
  have c7:=c7 n
  dsimp only
  split
  ·exact stay _ rfl rfl rfl (by dsimp only;omega) (by dsimp only;omega) (by dsimp only;omega) (fun e=> by dsimp only at e;omega) (fun e=> by dsimp only at e;omega) (fun e=> by dsimp only at e;omega)
  ·exact stay _ rfl rfl rfl (by dsimp only;omega) (by dsimp only;omega) (by dsimp only;omega) (fun e=> by dsimp only;omega) (fun e=> by dsimp only at e;omega) (fun e=> by dsimp only at e;omega)
 ·rw [adStep_8 s t m hd n]
  exact turn _ _ _ rfl rfl rfl (.inr (.inl rfl)) (.inr (.inl rfl))
 ·rw [adStep_9 s t m hd n]
  have c9:=c9 n
  dsimp only
  split
  ·exact stay _ rfl rfl rfl (by dsimp only;omega) (by dsimp only;omega) (by dsimp only;omega) (fun e=> by dsimp only at e;omega) (fun e=> by dsimp only at e;omega) (fun e=> by dsimp only at e;omega)
  ·exact stay _ rfl rfl rfl (by dsimp only;omega) (by dsimp only;omega) (by dsimp only;omega) (fun e=> by dsimp only at e;omega) (fun e=> by dsimp only;omega) (fun e=> by dsimp only at e;omega)
 ·rw [adStep_10 s t m hd n]
  dsimp only
  split
  ·rename_i hk
   have hk':=(ad_kind s t.at' (m.get (pageIx s.p s.c s.m t.at')) 2).2 hk
   have hp:=(readPage_super hk'.1 hk'.2).2.2
   refine stay _ rfl rfl rfl (by dsimp only;omega) (by dsimp only;omega) (by dsimp only;omega) (fun e=> by dsimp only at e;omega) (fun e=> by dsimp only at e;omega) (fun _=> ?_)
   show 0 < slotsV (pgP s t.at' (m.get (pageIx s.p s.c s.m t.at')) 0)∧(0:Int)≤0∧0 < slotsV (pgP s t.at' (m.get (pageIx s.p s.c s.m t.at')) 0)
   unfold pgP
   rw [if_pos hk.1]
   omega
  ·exact turn _ _ _ rfl rfl rfl (.inr (.inr rfl)) (.inr (.inr rfl))
 ·rw [adStep_11 s t m hd n]
  have c11:=c11 (.inl n)
  dsimp only
  split
  ·exact stay _ rfl rfl rfl (by dsimp only;omega) (by dsimp only;omega) (by dsimp only;omega) (fun e=> by dsimp only at e;omega) (fun e=> by dsimp only at e;omega) (fun _=> c11)
  ·exact adSlot_ok h1 h2 h3 h5 c11
 ·rw [adStep_12 s t m hd n]
  exact adSlot_ok h1 h2 h3 h5 (c11 (.inr n))
 ·rw [adStep_13 s t m hd n]
  exact adEnd_ok _ _
end Go.Proofs.YtampacmmhhilaaaGreat

/- Texts bound together: AdE AdF. -/
import Derived.Test.YtampacmmhhilaaaGreatBm22

set_option linter.all false
/- The Adopter in memory: begin. -/
namespace Go.Proofs.YtampacmmhhilaaaGreat

open Go.RowKit

attribute [local go_sem ↓] Go.wp_at_zero Go.wp_at_succ

theorem adStep_0 (s:Sh) (t:Ad) (m:Mem) (h:t.done=false) (h0:t.next=0):adStep s t m=(t.asked s (m.get (statusIx s.p s.c s.m t.d)),m.load t.c (statusIx s.p s.c s.m t.d)):=by
 unfold adStep Ad.asked
 simp [h,h0]
theorem adStep_1 (s:Sh) (t:Ad) (m:Mem) (h:t.done=false) (h0:t.next=1):adStep s t m=(if statusK (m.get (statusIx s.p s.c s.m t.who))=1 then ({ t with next:=2 }:Ad).fin 4 else { t with next:=2 },m.load t.c (statusIx s.p s.c s.m t.who)):=by
 unfold adStep
 simp [h,h0]
theorem adStep_2 (s:Sh) (t:Ad) (m:Mem) (h:t.done=false) (h0:t.next=2):adStep s t m=(if m.get (statusIx s.p s.c s.m t.d)=t.was then { t with next:=3 } else ({ t with next:=3 }:Ad).fin 4,m.swap t.c (statusIx s.p s.c s.m t.d) t.was (statusV 3 t.c)):=by
 unfold adStep
 simp [h,h0]
set_option maxRecDepth 100000 in
set_option maxHeartbeats 2000000 in
theorem adbegin_any (q p b:Nat) (s:Sh) (t:Ad) (m:Mem) (w:World) (h0:At3 q p b w w (adCells s t) 281 m) (hf:Fits s m) (hs:m.st < 1000000000) (hdn:t.done=false) (hn:0≤t.next∧t.next≤2) (hd:0≤t.d∧t.d < s.c) (hw:t.next=1→0≤t.who∧t.who < s.c):
  Calls Tryz.prog 300 #[.pointer (some ⟨q,0, .none⟩), .pointer (some ⟨p,0, .none⟩)] w fun e w'=> e= .returned (.tuple #[])∧At3 q p b w w' (adCells s (adStep s t m).1) 281 (adStep s t m).2:=by
 rcases (by omega:t.next=0∨t.next=1∨t.next=2) with hn0 | hn1 | hn2
 ·rw [adStep_0 s t m hdn hn0]
  have hask:=adask_any q p b s t m w h0 hf hs hd
  obtain ⟨t2,ht2⟩:∃ t2,t2=t.asked s (m.get (statusIx s.p s.c s.m t.d)):=⟨_,rfl⟩
  obtain ⟨m2,hm2⟩:∃ m2,m2=m.load t.c (statusIx s.p s.c s.m t.d):=⟨_,rfl⟩
  rw [← ht2,← hm2] at hask
  dsimp only
  rw [← ht2,← hm2]
  clear ht2 hm2 hd hw hf hs hn
  obtain ⟨sp,sc,sm⟩:=s
  obtain ⟨tc,td,tn,tw,tby,ta,ti,pk,pa,pb,terr,tdone⟩:=t
  dsimp only at hdn hn0
  subst hdn hn0
  replace hask:=Lib.hid hask
  have c5:w.cell? ⟨q,5, .none⟩=some (.int .i64 0):=h0.cell 5
  clear h0
  go_enter Tryz.func300,Tryz.ntmps300
  go_wp2_with (first | (go_at_call 303;(with_reducible refine hask.out.mono ?_);rintro r w1 ⟨rfl,hA⟩) | fail)
  go_returns
  exact ⟨rfl,hA⟩
 ·rw [adStep_1 s t m hdn hn1]
  obtain ⟨hpx,hph⟩:=hf.status (hw hn1)
  have hcp:=fun Y=> planStatus_any s.p s.c s.m t.who Y
  rw [hpx] at hcp ⊢
  have hlp:=fun Y (hY:WdsAt Y p b m)=> wload_any p b m t.c t.who Y hY hph hs
  have hrs:=fun Y=> rs2 (m.get t.who) Y (Mem.get_fit h0.wds.fit _)
  generalize m.get t.who=x at *
  have hend:=fun Y (hY:RowAt Y q (adCells s { t with next:=2 }) 281)=> adend_any q s { t with next:=2 } 4 Y hY
  obtain ⟨t2,ht2,ht2'⟩:∃ t2:Ad,Hid (t2=if statusK x=1 then ({ t with next:=2 }:Ad).fin 4 else { t with next:=2 })∧t2=_:=⟨_,Lib.hid rfl,rfl⟩
  dsimp only
  rw [← ht2']
  clear ht2' hpx hph hf hd hw hn
  generalize statusK x=k at *
  generalize statusA x=A at *
  obtain ⟨sp,sc,sm⟩:=s
  obtain ⟨tc,td,tn,tw,tby,ta,ti,pk,pa,pb,terr,tdone⟩:=t
  dsimp only at hcp hlp hend ht2 hdn hn1
  subst hdn hn1
  replace hcp:=Lib.hid hcp
  replace hlp:=Lib.hid hlp
  replace hrs:=Lib.hid hrs
  replace hend:=Lib.hid hend
  have c5:w.cell? ⟨q,5, .none⟩=some (.int .i64 1):=h0.cell 5
  go_enter Tryz.func300,Tryz.ntmps300
  go_upto_region 7 with fail
  refine wp_region_loud (x:=noVar 2) (ld:=14) (v:= .int .u64 x) (ts:= [48,52,61])
   (K0:=fun Y=> At3 q p b w Y (adCells ⟨sp,sc,sm⟩ ⟨tc,td,1,tw,tby,ta,ti,pk,pa,pb,terr,false⟩) 281 m) (K1:=fun Y=> At3 q p b w Y (adCells ⟨sp,sc,sm⟩ ⟨tc,td,1,tw,tby,ta,ti,pk,pa,pb,terr,false⟩) 281 (m.load tc tby))
   (by kernel_rfl) (by simp only [noVar,nopMF,nopM1,nopO,nopC,Nat.reduceBEq,Bool.or_false,Bool.or_true,Bool.false_eq_true,↓reduceIte,Nat.reduceAdd];exact rfl) (by kernel_rfl) (by kernel_rfl) (by kernel_rfl) (by simp [noVar]) (by simp [noVar]) (by simp [noVar]) (by simp [noVar]) (by kernel_rfl) (by simp [noVar]) (by simp [noVar])
   ⟨⟨fun Y Y' h1 h2 h3=> h1.far h2 h3 h0.only.size⟩,⟨fun Y Y' h1 h2 h3=> h1.far h2 h3 h0.only.size⟩⟩ h0.drew ?_
  apply Exists.intro
  refine ⟨fun B hb hs=> ?_,fun h=> (by simp [noVar] at h),?_,?_⟩
  case refine_1=>
   have hrB:RowAt B q (adCells ⟨sp,sc,sm⟩ ⟨tc,td,1,tw,tby,ta,ti,pk,pa,pb,terr,false⟩) 281:=hb.elim (fun h=> h.row) (fun h=> h.row)
   have lB:=hrB.lt
   have k0:B.cell? ⟨q,0, .none⟩=some (.int .i64 sp):=hrB.cell 0
   have k1:B.cell? ⟨q,1, .none⟩=some (.int .i64 sc):=hrB.cell 1
   have k2:B.cell? ⟨q,2, .none⟩=some (.int .i64 sm):=hrB.cell 2
   have k3:B.cell? ⟨q,3, .none⟩=some (.int .i64 tc):=hrB.cell 3
   have k7:B.cell? ⟨q,7, .none⟩=some (.int .i64 tby):=hrB.cell 7
   repeat (go_big_quiet_step ((first | (go_at_call 67;exact ext_of (hcp.out _)) | (go_at_call 75;exact ext_of (hrs.out _)) | fail)))
   exact wpQuiet_nil rfl
  case refine_2=> exact loud_step rfl (fun _ _=> by simp [go_sem]) fun Y hY2 hs=> (hlp.out Y hY2.wds).mono fun r Y' ⟨h1,h2,h3⟩=> ⟨h1,hY2.load h2 h3,h3.weak fun k hk=> hk ▸ Nat.lt_of_lt_of_le hY2.ls.2.1 h0.only.size⟩
  case refine_3=>
   intro a w4 M hf
   obtain ⟨rfl,hbig,hA,_⟩:=hf
   simp only [noVar,vput,List.size_toArray,List.length_cons,List.length_nil,Nat.reduceAdd,Nat.reduceLT,decide_false,Bool.false_eq_true,if_false]
   have z5:w4.cell? ⟨q,5, .none⟩=some (.int .i64 1):=hA.cell 5
   have zf:=hA.free
   have hB:=hA.set 5 (.int .i64 2)
   clear h0 hlp hcp hrs
   rcases (by by_cases h:k=1 <;> simp [h]:k=1∨(k≠1∧(k==1)=false)) with rfl | ⟨hk,hk2⟩
   ·replace ht2:=Lib.hid (ht2.out.trans (if_pos rfl))
    go_wp2_with (first | (go_at_call 180;(with_reducible refine (hend.out _ hB.row).mono ?_);rintro r w3 hT;obtain rfl:=hT.ret) | fail)
    go_returns
    exact ⟨rfl,by rw [ht2.out];exact hB.turned hT⟩
   ·replace ht2:=Lib.hid (ht2.out.trans (if_neg hk))
    clear hend
    go_wp2_with fail
    go_returns
    exact ⟨rfl,by rw [ht2.out];exact hB⟩
 ·rw [adStep_2 s t m hdn hn2]
  obtain ⟨hpx,hph⟩:=hf.status hd
  have hcp:=fun Y=> planStatus_any s.p s.c s.m t.d Y
  rw [hpx] at hcp ⊢
  have hps:=fun Y=> status_any 3 t.c Y
  have hsw:=fun Y (hY:WdsAt Y p b m)=> wswap_any p b m t.c t.d t.was (statusV 3 t.c) Y hY hph (statusV_u64 _ _) hs
  have hend:=fun Y (hY:RowAt Y q (adCells s { t with next:=3 }) 281)=> adend_any q s { t with next:=3 } 4 Y hY
  obtain ⟨t2,ht2,ht2'⟩:∃ t2:Ad,Hid (t2=if m.get t.d=t.was then { t with next:=3 } else ({ t with next:=3 }:Ad).fin 4)∧t2=_:=⟨_,Lib.hid rfl,rfl⟩
  dsimp only
  rw [← ht2']
  obtain ⟨sb,hsb⟩:∃ sb,sb=decide (m.get t.d=t.was):=⟨_,rfl⟩
  rw [← hsb] at hsw
  have hsb':(sb=true∧t2= { t with next:=3 })∨(sb=false∧t2=({ t with next:=3 }:Ad).fin 4):=by
   rw [hsb,ht2.out]
   by_cases h:m.get t.d=t.was <;> simp [h]
  clear ht2' hpx hph hf hd hw hn ht2 hsb
  obtain ⟨sp,sc,sm⟩:=s
  obtain ⟨tc,td,tn,tw,tby,ta,ti,pk,pa,pb,terr,tdone⟩:=t
  dsimp only at hcp hps hsw hend hsb' hdn hn2 ⊢
  subst hdn hn2
  replace hcp:=Lib.hid hcp
  replace hps:=Lib.hid hps
  replace hsw:=Lib.hid hsw
  replace hend:=Lib.hid hend
  replace hsb':=Lib.hid hsb'
  have c5:w.cell? ⟨q,5, .none⟩=some (.int .i64 2):=h0.cell 5
  have zf:=h0.free
  go_enter Tryz.func300,Tryz.ntmps300
  go_upto_region 2 with fail
  have hX:=h0.set 5 (.int .i64 3)
  generalize World.setCell _ ⟨q,5, .none⟩ (.int .i64 3)=W at *
  clear h0 c5 zf
  refine wp_region_loud (x:=noVar 2) (ld:=23) (v:= .bool sb) (ts:= [13,17,26,30,35])
   (K0:=fun Y=> At3 q p b w Y (adCells ⟨sp,sc,sm⟩ ⟨tc,td,3,tw,tby,ta,ti,pk,pa,pb,terr,false⟩) 281 m) (K1:=fun Y=> At3 q p b w Y (adCells ⟨sp,sc,sm⟩ ⟨tc,td,3,tw,tby,ta,ti,pk,pa,pb,terr,false⟩) 281 (m.swap tc td tw (statusV 3 tc)))
   (by kernel_rfl) (by simp only [noVar,nopMF,nopM1,nopO,nopC,Nat.reduceBEq,Bool.or_false,Bool.or_true,Bool.false_eq_true,↓reduceIte,Nat.reduceAdd];exact rfl) (by kernel_rfl) (by kernel_rfl) (by kernel_rfl) (by simp [noVar]) (by simp [noVar]) (by simp [noVar]) (by simp [noVar]) (by kernel_rfl) (by simp [noVar]) (by simp [noVar])
   ⟨⟨fun Y Y' h1 h2 h3=> h1.far h2 h3 hX.only.size⟩,⟨fun Y Y' h1 h2 h3=> h1.far h2 h3 hX.only.size⟩⟩ hX.drew ?_
  apply Exists.intro
  refine ⟨fun B hb hs=> ?_,fun h=> (by simp [noVar] at h),?_,?_⟩
  case refine_1=>
   have hrB:RowAt B q (adCells ⟨sp,sc,sm⟩ ⟨tc,td,3,tw,tby,ta,ti,pk,pa,pb,terr,false⟩) 281:=hb.elim (fun h=> h.row) (fun h=> h.row)
   have lB:=hrB.lt
   have k0:B.cell? ⟨q,0, .none⟩=some (.int .i64 sp):=hrB.cell 0
   have k1:B.cell? ⟨q,1, .none⟩=some (.int .i64 sc):=hrB.cell 1
   have k2:B.cell? ⟨q,2, .none⟩=some (.int .i64 sm):=hrB.cell 2
   have k3:B.cell? ⟨q,3, .none⟩=some (.int .i64 tc):=hrB.cell 3
   have k4:B.cell? ⟨q,4, .none⟩=some (.int .i64 td):=hrB.cell 4
   have k6:B.cell? ⟨q,6, .none⟩=some (.int .u64 tw):=hrB.cell 6
   repeat (go_big_quiet_step ((first | (go_at_call 67;exact ext_of (hcp.out _)) | (go_at_call 119;exact ext_of (hps.out _)) | fail)))
   exact wpQuiet_nil rfl
  case refine_2=> exact loud_step rfl (fun _ _=> by simp [go_sem]) fun Y hY2 hs=> (hsw.out Y hY2.wds).mono fun r Y' ⟨h1,h2,h3⟩=> ⟨h1,hY2.access h2 h3,h3.weak fun k hk=> hk.elim (fun e=> e ▸ Nat.lt_of_lt_of_le hY2.ls.2.1 hX.only.size) (fun e=> e ▸ Nat.lt_of_lt_of_le hY2.ls.2.2 hX.only.size)⟩
  case refine_3=>
   intro a w4 M hf
   obtain ⟨rfl,hbig,hA,_⟩:=hf
   simp only [noVar,vput,List.size_toArray,List.length_cons,List.length_nil,Nat.reduceAdd,Nat.reduceLT,decide_false,Bool.false_eq_true,if_false]
   clear hX hsw hcp hps
   rcases hsb'.out with ⟨rfl,ht2⟩ | ⟨rfl,ht2⟩
   ·replace ht2:=Lib.hid ht2
    clear hsb' hend
    go_wp2_with fail
    go_returns
    exact ⟨rfl,by rw [ht2.out];exact hA⟩
   ·replace ht2:=Lib.hid ht2
    clear hsb'
    go_wp2_with (first | (go_at_call 180;(with_reducible refine (hend.out _ hA.row).mono ?_);rintro r w3 hT;obtain rfl:=hT.ret) | fail)
    go_returns
    exact ⟨rfl,by rw [ht2.out];exact hA.turned hT⟩
end Go.Proofs.YtampacmmhhilaaaGreat
/- The Adopter in memory: held. -/
namespace Go.Proofs.YtampacmmhhilaaaGreat

open Go.RowKit

attribute [local go_sem ↓] Go.wp_at_zero Go.wp_at_succ

def Ad.page (s:Sh) (t:Ad) (a x:Int):Ad:= { t with pk:=pgK s a x,pa:=pgP s a x 0,pb:=pgP s a x 1 }
theorem ad_keep (s:Sh) (t:Ad) (a x:Int):t.keep s a x=t.page s a x:=rfl
theorem ad_kind (s:Sh) (a x k:Int):(readPageB s.p s.c s.m a x=true∧kindV x=k)↔(readPageB s.p s.c s.m a x=true∧pgK s a x=k):=by
 unfold pgK
 cases readPageB s.p s.c s.m a x <;> simp
theorem ad_own (s:Sh) (t:Ad) (a x:Int):t.own s a x=(readPageB s.p s.c s.m a x && (pgK s a x==1 && pgP s a x 0==t.d)):=by
 unfold Ad.own pgK pgP
 cases readPageB s.p s.c s.m a x <;> simp
theorem adStep_3 (s:Sh) (t:Ad) (m:Mem) (h:t.done=false) (h0:t.next=3):adStep s t m=(if readPageB s.p s.c s.m t.at' (m.get (pageIx s.p s.c s.m t.at'))=true∧pgK s t.at' (m.get (pageIx s.p s.c s.m t.at'))=4 then { t.page s t.at' (m.get (pageIx s.p s.c s.m t.at')) with next:=4 } else (t.page s t.at' (m.get (pageIx s.p s.c s.m t.at'))).turn s 3 6,m.load t.c (pageIx s.p s.c s.m t.at')):=by
 unfold adStep
 simp [h,h0,ad_keep,ad_kind]
theorem adStep_4 (s:Sh) (t:Ad) (m:Mem) (h:t.done=false) (h0:t.next=4):adStep s t m=(if t.own s t.pa (m.get (pageIx s.p s.c s.m t.pa))=true then { t with next:=5 } else t.turn s 3 6,m.load t.c (pageIx s.p s.c s.m t.pa)):=by
 unfold adStep
 simp [h,h0]
theorem adStep_5 (s:Sh) (t:Ad) (m:Mem) (h:t.done=false) (h0:t.next=5):adStep s t m=(t.turn s 3 6,m.store t.c (pageIx s.p s.c s.m t.at') 0):=by
 unfold adStep
 simp [h,h0]
theorem adStep_6 (s:Sh) (t:Ad) (m:Mem) (h:t.done=false) (h0:t.next=6):adStep s t m=(if t.own s t.at' (m.get (pageIx s.p s.c s.m t.at'))=true then { t with next:=7,i:=0 } else t.turn s 6 9,m.load t.c (pageIx s.p s.c s.m t.at')):=by
 unfold adStep
 simp [h,h0]
theorem adStep_7 (s:Sh) (t:Ad) (m:Mem) (h:t.done=false) (h0:t.next=7):adStep s t m=(if t.i + 1=16 then { t with i:=t.i + 1,next:=8 } else { t with i:=t.i + 1 },m.store t.c (slotIx s.p s.c s.m t.at' t.i) 0):=by
 unfold adStep
 simp [h,h0]
theorem adStep_8 (s:Sh) (t:Ad) (m:Mem) (h:t.done=false) (h0:t.next=8):adStep s t m=(t.turn s 6 9,m.store t.c (pageIx s.p s.c s.m t.at') 0):=by
 unfold adStep
 simp [h,h0]
set_option maxRecDepth 100000 in
set_option maxHeartbeats 2000000 in
theorem adheld3 (q p b:Nat) (s:Sh) (t:Ad) (m:Mem) (w:World) (h0:At3 q p b w w (adCells s t) 281 m) (hf:Fits s m) (hs:m.st < 1000000000) (hdn:t.done=false) (hn:t.next=3) (hat:0≤t.at'∧t.at' < s.p):
  Calls Tryz.prog 301 #[.pointer (some ⟨q,0, .none⟩), .pointer (some ⟨p,0, .none⟩)] w fun e w'=> e= .returned (.tuple #[])∧At3 q p b w w' (adCells s (adStep s t m).1) 281 (adStep s t m).2:=by
 have hat64:0≤t.at'∧t.at' < 64:=by have:=hf.bd;omega
 rw [adStep_3 s t m hdn hn]
 have hrd:=adread_any q p b s t m t.at' w h0 hf hs hat
 generalize pageIx s.p s.c s.m t.at'=pg at *
 generalize m.get pg=x at *
 unfold Ad.page
 have htn:=fun Y (hY:RowAt Y q (adCells s { t with pk:=pgK s t.at' x,pa:=pgP s t.at' x 0,pb:=pgP s t.at' x 1 }) 281)=> adturn_any q s { t with pk:=pgK s t.at' x,pa:=pgP s t.at' x 0,pb:=pgP s t.at' x 1 } 3 6 Y hY hat64
 generalize readPageB s.p s.c s.m t.at' x=B at *
 generalize pgK s t.at' x=e0 at *
 generalize pgP s t.at' x 0=e1 at *
 generalize pgP s t.at' x 1=e2 at *
 dsimp only
 obtain ⟨t2,ht2,ht2'⟩:∃ t2:Ad,Hid (t2=if B=true∧e0=4 then { t with pk:=e0,pa:=e1,pb:=e2,next:=4 } else ({ t with pk:=e0,pa:=e1,pb:=e2 }:Ad).turn s 3 6)∧t2=_:=⟨_,Lib.hid rfl,rfl⟩
 rw [← ht2']
 clear ht2' hat64
 obtain ⟨sp,sc,sm⟩:=s
 obtain ⟨tc,td,tn,tw,tby,ta,ti,pk,pa,pb,terr,tdone⟩:=t
 dsimp only at hdn hn hat hrd htn ht2 ⊢
 subst hdn hn
 replace hrd:=Lib.hid hrd
 replace htn:=Lib.hid htn
 have lq:=h0.lt
 have c5:w.cell? ⟨q,5, .none⟩=some (.int .i64 3):=h0.cell 5
 have c8:w.cell? ⟨q,8, .none⟩=some (.int .i64 ta):=h0.cell 8
 clear hf hs
 go_enter Tryz.func301,Tryz.ntmps301
 go_upto_region 5 with (first | (go_at_call 304;(with_reducible refine hrd.out.mono ?_);rintro r w1 ⟨rfl,hA⟩) | fail)
 have hBx:=hA.alloc (.cells #[.int .i64 e0, .int .i64 e1, .int .i64 e2] 160)
 have hE:RowAt (w1.alloc (.cells #[.int .i64 e0, .int .i64 e1, .int .i64 e2] 160)) w1.heap.size #[.int .i64 e0, .int .i64 e1, .int .i64 e2] 160:=heap_alloc_new _ _
 have hEq:w1.heap.size≠q:=fun e=> by have:=hA.lt;omega
 generalize w1.alloc (.cells #[.int .i64 e0, .int .i64 e1, .int .i64 e2] 160)=Y at *
 obtain ⟨E,hEE,hEE'⟩:∃ E,Hid (E=w1.heap.size)∧E=w1.heap.size:=⟨_,Lib.hid rfl,rfl⟩
 simp only [← hEE'] at hE hEq ⊢
 clear hEE' hEE hA c5 c8 hrd
 have lY:=hBx.lt
 have lE:=hE.lt
 have g0:Y.cell? ⟨E,0, .none⟩=some (.int .i64 e0):=hE.cell 0
 have g1:Y.cell? ⟨E,1, .none⟩=some (.int .i64 e1):=hE.cell 1
 have g2:Y.cell? ⟨E,2, .none⟩=some (.int .i64 e2):=hE.cell 2
 have c5:Y.cell? ⟨q,5, .none⟩=some (.int .i64 3):=hBx.cell 5
 have c9:Y.cell? ⟨q,9, .none⟩=some (.int .i64 ti):=hBx.cell 9
 have c10:Y.cell? ⟨q,10, .none⟩=some (.int .i64 pk):=hBx.cell 10
 have c11:Y.cell? ⟨q,11, .none⟩=some (.int .i64 pa):=hBx.cell 11
 have c12:Y.cell? ⟨q,12, .none⟩=some (.int .i64 pb):=hBx.cell 12
 have zf:=hBx.free
 have hC:=((hBx.set 10 (.int .i64 e0)).set 11 (.int .i64 e1)).set 12 (.int .i64 e2)
 by_cases hc:B=true∧e0=4
 ·replace ht2:=Lib.hid (ht2.out.trans (if_pos hc))
  obtain ⟨rfl,rfl⟩:=hc
  have hD:=((hC.set 5 (.int .i64 4)))
  clear htn
  go_wp2_with fail
  go_returns
  exact ⟨rfl,by rw [ht2.out];exact hD⟩
 ·replace ht2:=Lib.hid (ht2.out.trans (if_neg hc))
  have hne:B=false∨(B=true∧(e0==4)=false):=by
   cases B
   ·exact .inl rfl
   ·exact .inr ⟨rfl,by simpa using hc⟩
  clear hc
  rcases hne with rfl | ⟨rfl,hne⟩
  all_goals
   go_wp2_with (first | (go_at_call 305;(with_reducible refine (htn.out _ hC.row).mono ?_);rintro r w3 hT;obtain rfl:=hT.ret) | fail)
   go_returns
   exact ⟨rfl,by rw [ht2.out];exact hC.turned hT⟩
set_option maxRecDepth 100000 in
set_option maxHeartbeats 2000000 in
theorem adheld4 (q p b:Nat) (s:Sh) (t:Ad) (m:Mem) (w:World) (h0:At3 q p b w w (adCells s t) 281 m) (hf:Fits s m) (hs:m.st < 1000000000) (hdn:t.done=false) (hn:t.next=4) (hat:0≤t.at'∧t.at' < s.p) (hpa:t.next=4→0≤t.pa∧t.pa < s.p):
  Calls Tryz.prog 301 #[.pointer (some ⟨q,0, .none⟩), .pointer (some ⟨p,0, .none⟩)] w fun e w'=> e= .returned (.tuple #[])∧At3 q p b w w' (adCells s (adStep s t m).1) 281 (adStep s t m).2:=by
 have hat64:0≤t.at'∧t.at' < 64:=by have:=hf.bd;omega
 rw [adStep_4 s t m hdn hn]
 rw [ad_own]
 have hrd:=adread_any q p b s t m t.pa w h0 hf hs (hpa hn)
 have htn:=fun Y (hY:RowAt Y q (adCells s t) 281)=> adturn_any q s t 3 6 Y hY hat64
 generalize pageIx s.p s.c s.m t.pa=pg at *
 generalize m.get pg=x at *
 generalize readPageB s.p s.c s.m t.pa x=B at *
 generalize pgK s t.pa x=e0 at *
 generalize pgP s t.pa x 0=e1 at *
 generalize pgP s t.pa x 1=e2 at *
 have hown:=fun Y (hY:RowAt Y q (adCells s t) 281)=> adown_any q s t e0 e1 e2 B Y hY
 generalize (B && (e0==1 && e1==t.d))=o at *
 dsimp only
 obtain ⟨t2,ht2,ht2'⟩:∃ t2:Ad,Hid (t2=if o=true then { t with next:=5 } else t.turn s 3 6)∧t2=_:=⟨_,Lib.hid rfl,rfl⟩
 rw [← ht2']
 clear ht2' hat64
 obtain ⟨sp,sc,sm⟩:=s
 obtain ⟨tc,td,tn,tw,tby,ta,ti,pk,pa,pb,terr,tdone⟩:=t
 dsimp only at hdn hn hat hrd htn hown ht2 ⊢
 subst hdn hn
 replace hrd:=Lib.hid hrd
 replace htn:=Lib.hid htn
 replace hown:=Lib.hid hown
 have lq:=h0.lt
 have c5:w.cell? ⟨q,5, .none⟩=some (.int .i64 4):=h0.cell 5
 have c11:w.cell? ⟨q,11, .none⟩=some (.int .i64 pa):=h0.cell 11
 clear hf hs
 go_enter Tryz.func301,Tryz.ntmps301
 rcases (by cases o <;> simp:o=true∨o=false) with rfl | rfl
 ·replace ht2:=Lib.hid (ht2.out.trans (if_pos rfl))
  clear htn
  go_wp2_with (first | (go_at_call 304;(with_reducible refine hrd.out.mono ?_);rintro r w1 ⟨rfl,hA⟩) | (go_at_call 306;(with_reducible refine (hown.out _ hA.row).mono ?_);rintro r w2 ⟨rfl,hb2⟩;have hB:=hA.below hb2;have k5:w2.cell? ⟨q,5, .none⟩=some (.int .i64 4):=hB.cell 5;have k9:w2.cell? ⟨q,9, .none⟩=some (.int .i64 ti):=hB.cell 9;have zf:=hB.free) | fail)
  go_returns
  exact ⟨rfl,by rw [ht2.out];exact hB.set 5 _⟩
 ·replace ht2:=Lib.hid (ht2.out.trans (if_neg (by decide)))
  go_wp2_with (first | (go_at_call 304;(with_reducible refine hrd.out.mono ?_);rintro r w1 ⟨rfl,hA⟩) | (go_at_call 306;(with_reducible refine (hown.out _ hA.row).mono ?_);rintro r w2 ⟨rfl,hb2⟩;have hB:=hA.below hb2;have k5:w2.cell? ⟨q,5, .none⟩=some (.int .i64 4):=hB.cell 5;have k9:w2.cell? ⟨q,9, .none⟩=some (.int .i64 ti):=hB.cell 9;have zf:=hB.free) | (go_at_call 305;(with_reducible refine (htn.out _ hB.row).mono ?_);rintro r w3 hT;obtain rfl:=hT.ret) | fail)
  go_returns
  exact ⟨rfl,by rw [ht2.out];exact hB.turned hT⟩
set_option maxRecDepth 100000 in
set_option maxHeartbeats 2000000 in
theorem adheld5 (q p b:Nat) (s:Sh) (t:Ad) (m:Mem) (w:World) (h0:At3 q p b w w (adCells s t) 281 m) (hf:Fits s m) (hs:m.st < 1000000000) (hdn:t.done=false) (hn:t.next=5) (hat:0≤t.at'∧t.at' < s.p):
  Calls Tryz.prog 301 #[.pointer (some ⟨q,0, .none⟩), .pointer (some ⟨p,0, .none⟩)] w fun e w'=> e= .returned (.tuple #[])∧At3 q p b w w' (adCells s (adStep s t m).1) 281 (adStep s t m).2:=by
 have hat64:0≤t.at'∧t.at' < 64:=by have:=hf.bd;omega
 rw [adStep_5 s t m hdn hn]
 obtain ⟨hpx,hph⟩:=hf.page hat
 have hcpp:=fun Y=> planPage_any s.p s.c s.m t.at' Y
 rw [hpx] at hcpp ⊢
 have hst:=fun Y (hY:WdsAt Y p b m)=> wstore_any p b m t.c (s.c + t.at') 0 Y hY hph (by decide) hs
 have htn:=fun Y (hY:RowAt Y q (adCells s t) 281)=> adturn_any q s t 3 6 Y hY hat64
 generalize s.c + t.at'=pg at *
 dsimp only
 obtain ⟨t2,ht2⟩:∃ t2,t2=t.turn s 3 6:=⟨_,rfl⟩
 rw [← ht2] at htn ⊢
 clear ht2 hpx hph hf hat64
 obtain ⟨sp,sc,sm⟩:=s
 obtain ⟨tc,td,tn,tw,tby,ta,ti,pk,pa,pb,terr,tdone⟩:=t
 dsimp only at hdn hn hat hcpp hst htn ⊢
 subst hdn hn
 replace hcpp:=Lib.hid hcpp
 replace hst:=Lib.hid hst
 replace htn:=Lib.hid htn
 have lq:=h0.lt
 have c0:w.cell? ⟨q,0, .none⟩=some (.int .i64 sp):=h0.cell 0
 have c1:w.cell? ⟨q,1, .none⟩=some (.int .i64 sc):=h0.cell 1
 have c2:w.cell? ⟨q,2, .none⟩=some (.int .i64 sm):=h0.cell 2
 have c3:w.cell? ⟨q,3, .none⟩=some (.int .i64 tc):=h0.cell 3
 have c5:w.cell? ⟨q,5, .none⟩=some (.int .i64 5):=h0.cell 5
 have c8:w.cell? ⟨q,8, .none⟩=some (.int .i64 ta):=h0.cell 8
 clear hat
 go_enter Tryz.func301,Tryz.ntmps301
 go_upto_region 14 with fail
 refine wp_region_ext_tail 14 (by kernel_rfl) (by kernel_rfl) ?_
 dsimp only [List.take,List.drop]
 repeat (go_big_quiet_step ((first | (go_at_call 136;exact ext_of (hcpp.out _)) | fail)))
 refine wpQuiet_nil ?_
 rintro _ ⟨e',rfl⟩
 have hZ:=h0.below e'.below
 generalize e'.w=Z at *
 change wpList _ _ _ _ _ Z
 clear lq h0
 go_wp2_with (first
  | (go_at_call 262;(with_reducible refine (hst.out _ hZ.wds).mono ?_);rintro r w2 ⟨rfl,hw2,ho2⟩;have hA:=hZ.access hw2 ho2)
  | (go_at_call 305;(with_reducible refine (htn.out _ hA.row).mono ?_);rintro r w3 hT;obtain rfl:=hT.ret)
  | fail)
 go_returns
 exact ⟨rfl,hA.turned hT⟩
set_option maxRecDepth 100000 in
set_option maxHeartbeats 2000000 in
theorem adheld6 (q p b:Nat) (s:Sh) (t:Ad) (m:Mem) (w:World) (h0:At3 q p b w w (adCells s t) 281 m) (hf:Fits s m) (hs:m.st < 1000000000) (hdn:t.done=false) (hn:t.next=6) (hat:0≤t.at'∧t.at' < s.p):
  Calls Tryz.prog 301 #[.pointer (some ⟨q,0, .none⟩), .pointer (some ⟨p,0, .none⟩)] w fun e w'=> e= .returned (.tuple #[])∧At3 q p b w w' (adCells s (adStep s t m).1) 281 (adStep s t m).2:=by
 have hat64:0≤t.at'∧t.at' < 64:=by have:=hf.bd;omega
 rw [adStep_6 s t m hdn hn]
 rw [ad_own]
 have hrd:=adread_any q p b s t m t.at' w h0 hf hs hat
 have htn:=fun Y (hY:RowAt Y q (adCells s t) 281)=> adturn_any q s t 6 9 Y hY hat64
 generalize pageIx s.p s.c s.m t.at'=pg at *
 generalize m.get pg=x at *
 generalize readPageB s.p s.c s.m t.at' x=B at *
 generalize pgK s t.at' x=e0 at *
 generalize pgP s t.at' x 0=e1 at *
 generalize pgP s t.at' x 1=e2 at *
 have hown:=fun Y (hY:RowAt Y q (adCells s t) 281)=> adown_any q s t e0 e1 e2 B Y hY
 generalize (B && (e0==1 && e1==t.d))=o at *
 dsimp only
 obtain ⟨t2,ht2,ht2'⟩:∃ t2:Ad,Hid (t2=if o=true then { t with next:=7,i:=0 } else t.turn s 6 9)∧t2=_:=⟨_,Lib.hid rfl,rfl⟩
 rw [← ht2']
 clear ht2' hat64
 obtain ⟨sp,sc,sm⟩:=s
 obtain ⟨tc,td,tn,tw,tby,ta,ti,pk,pa,pb,terr,tdone⟩:=t
 dsimp only at hdn hn hat hrd htn hown ht2 ⊢
 subst hdn hn
 replace hrd:=Lib.hid hrd
 replace htn:=Lib.hid htn
 replace hown:=Lib.hid hown
 have lq:=h0.lt
 have c5:w.cell? ⟨q,5, .none⟩=some (.int .i64 6):=h0.cell 5
 have c8:w.cell? ⟨q,8, .none⟩=some (.int .i64 ta):=h0.cell 8
 clear hf hs
 go_enter Tryz.func301,Tryz.ntmps301
 rcases (by cases o <;> simp:o=true∨o=false) with rfl | rfl
 ·replace ht2:=Lib.hid (ht2.out.trans (if_pos rfl))
  clear htn
  go_wp2_with (first | (go_at_call 304;(with_reducible refine hrd.out.mono ?_);rintro r w1 ⟨rfl,hA⟩) | (go_at_call 306;(with_reducible refine (hown.out _ hA.row).mono ?_);rintro r w2 ⟨rfl,hb2⟩;have hB:=hA.below hb2;have k5:w2.cell? ⟨q,5, .none⟩=some (.int .i64 6):=hB.cell 5;have k9:w2.cell? ⟨q,9, .none⟩=some (.int .i64 ti):=hB.cell 9;have zf:=hB.free) | fail)
  go_returns
  exact ⟨rfl,by rw [ht2.out];exact (hB.set 5 _).set 9 _⟩
 ·replace ht2:=Lib.hid (ht2.out.trans (if_neg (by decide)))
  go_wp2_with (first | (go_at_call 304;(with_reducible refine hrd.out.mono ?_);rintro r w1 ⟨rfl,hA⟩) | (go_at_call 306;(with_reducible refine (hown.out _ hA.row).mono ?_);rintro r w2 ⟨rfl,hb2⟩;have hB:=hA.below hb2;have k5:w2.cell? ⟨q,5, .none⟩=some (.int .i64 6):=hB.cell 5;have k9:w2.cell? ⟨q,9, .none⟩=some (.int .i64 ti):=hB.cell 9;have zf:=hB.free) | (go_at_call 305;(with_reducible refine (htn.out _ hB.row).mono ?_);rintro r w3 hT;obtain rfl:=hT.ret) | fail)
  go_returns
  exact ⟨rfl,by rw [ht2.out];exact hB.turned hT⟩
set_option maxRecDepth 100000 in
set_option maxHeartbeats 2000000 in
theorem adheld7 (q p b:Nat) (s:Sh) (t:Ad) (m:Mem) (w:World) (h0:At3 q p b w w (adCells s t) 281 m) (hf:Fits s m) (hs:m.st < 1000000000) (hdn:t.done=false) (hn:t.next=7) (hat:0≤t.at'∧t.at' < s.p) (hi:0≤t.i∧t.i < 16):
  Calls Tryz.prog 301 #[.pointer (some ⟨q,0, .none⟩), .pointer (some ⟨p,0, .none⟩)] w fun e w'=> e= .returned (.tuple #[])∧At3 q p b w w' (adCells s (adStep s t m).1) 281 (adStep s t m).2:=by
 have hat64:0≤t.at'∧t.at' < 64:=by have:=hf.bd;omega
 rw [adStep_7 s t m hdn hn]
 obtain ⟨hpx,hph⟩:=hf.slot hat hi
 have hcpp:=fun Y=> planSlot_any s.p s.c s.m t.at' t.i Y
 rw [hpx] at hcpp ⊢
 have hst:=fun Y (hY:WdsAt Y p b m)=> wstore_any p b m t.c (s.c + s.p + t.at' * 16 + t.i) 0 Y hY hph (by decide) hs
 generalize s.c + s.p + t.at' * 16 + t.i=pg at *
 have w1:IntKind.i64.wrap (t.i + 1)=t.i + 1:=IntWalk.i64_in _ ⟨by omega,by omega⟩
 have hcs:t.i + 1=16∨(¬ t.i + 1=16∧(t.i + 1==16)=false):=by
  by_cases h:t.i + 1=16
  ·exact .inl h
  ·exact .inr ⟨h,by simpa using h⟩
 dsimp only
 obtain ⟨t2,ht2,ht2'⟩:∃ t2:Ad,Hid (t2=if t.i + 1=16 then { t with i:=t.i + 1,next:=8 } else { t with i:=t.i + 1 })∧t2=_:=⟨_,Lib.hid rfl,rfl⟩
 rw [← ht2']
 clear ht2' hpx hph hf hat64 hi
 obtain ⟨sp,sc,sm⟩:=s
 obtain ⟨tc,td,tn,tw,tby,ta,ti,pk,pa,pb,terr,tdone⟩:=t
 dsimp only at hdn hn hat hcpp hst ht2 hcs w1 ⊢
 subst hdn hn
 replace hcpp:=Lib.hid hcpp
 replace hst:=Lib.hid hst
 replace hcs:=Lib.hid hcs
 have lq:=h0.lt
 have c0:w.cell? ⟨q,0, .none⟩=some (.int .i64 sp):=h0.cell 0
 have c1:w.cell? ⟨q,1, .none⟩=some (.int .i64 sc):=h0.cell 1
 have c2:w.cell? ⟨q,2, .none⟩=some (.int .i64 sm):=h0.cell 2
 have c3:w.cell? ⟨q,3, .none⟩=some (.int .i64 tc):=h0.cell 3
 have c5:w.cell? ⟨q,5, .none⟩=some (.int .i64 7):=h0.cell 5
 have c8:w.cell? ⟨q,8, .none⟩=some (.int .i64 ta):=h0.cell 8
 have c9:w.cell? ⟨q,9, .none⟩=some (.int .i64 ti):=h0.cell 9
 clear hat
 go_enter Tryz.func301,Tryz.ntmps301
 go_upto_region 21 with fail
 refine wp_region_ext_tail 18 (by kernel_rfl) (by kernel_rfl) ?_
 dsimp only [List.take,List.drop]
 repeat (go_big_quiet_step ((first | (go_at_call 138;exact ext_of (hcpp.out _)) | fail)))
 refine wpQuiet_nil ?_
 rintro _ ⟨e',rfl⟩
 have hZ:=h0.below e'.below
 generalize e'.w=Z at *
 change wpList _ _ _ _ _ Z
 clear lq h0
 go_upto_region 23 with (first
  | (go_at_call 262;(with_reducible refine (hst.out _ hZ.wds).mono ?_);rintro r w2 ⟨rfl,hw2,ho2⟩;have hA:=hZ.access hw2 ho2;have k5:w2.cell? ⟨q,5, .none⟩=some (.int .i64 7):=hA.cell 5;have k9:w2.cell? ⟨q,9, .none⟩=some (.int .i64 ti):=hA.cell 9;have zf:=hA.free)
  | fail)
 have hB:=hA.set 9 (.int .i64 (ti + 1))
 rcases hcs.out with h1 | ⟨h1,h2⟩
 ·replace ht2:=Lib.hid (ht2.out.trans (if_pos h1))
  rw [h1] at ht2 hB w1
  simp only [h1]
  clear hcs h1
  go_wp2_with fail
  go_returns
  exact ⟨rfl,by rw [ht2.out];exact hB.set 5 _⟩
 ·replace ht2:=Lib.hid (ht2.out.trans (if_neg h1))
  clear hcs h1
  go_wp2_with fail
  go_returns
  exact ⟨rfl,by rw [ht2.out];exact hB⟩
set_option maxRecDepth 100000 in
set_option maxHeartbeats 2000000 in
theorem adheld8 (q p b:Nat) (s:Sh) (t:Ad) (m:Mem) (w:World) (h0:At3 q p b w w (adCells s t) 281 m) (hf:Fits s m) (hs:m.st < 1000000000) (hdn:t.done=false) (hn:t.next=8) (hat:0≤t.at'∧t.at' < s.p):
  Calls Tryz.prog 301 #[.pointer (some ⟨q,0, .none⟩), .pointer (some ⟨p,0, .none⟩)] w fun e w'=> e= .returned (.tuple #[])∧At3 q p b w w' (adCells s (adStep s t m).1) 281 (adStep s t m).2:=by
 have hat64:0≤t.at'∧t.at' < 64:=by have:=hf.bd;omega
 rw [adStep_8 s t m hdn hn]
 obtain ⟨hpx,hph⟩:=hf.page hat
 have hcpp:=fun Y=> planPage_any s.p s.c s.m t.at' Y
 rw [hpx] at hcpp ⊢
 have hst:=fun Y (hY:WdsAt Y p b m)=> wstore_any p b m t.c (s.c + t.at') 0 Y hY hph (by decide) hs
 have htn:=fun Y (hY:RowAt Y q (adCells s t) 281)=> adturn_any q s t 6 9 Y hY hat64
 generalize s.c + t.at'=pg at *
 dsimp only
 obtain ⟨t2,ht2⟩:∃ t2,t2=t.turn s 6 9:=⟨_,rfl⟩
 rw [← ht2] at htn ⊢
 clear ht2 hpx hph hf hat64
 obtain ⟨sp,sc,sm⟩:=s
 obtain ⟨tc,td,tn,tw,tby,ta,ti,pk,pa,pb,terr,tdone⟩:=t
 dsimp only at hdn hn hat hcpp hst htn ⊢
 subst hdn hn
 replace hcpp:=Lib.hid hcpp
 replace hst:=Lib.hid hst
 replace htn:=Lib.hid htn
 have lq:=h0.lt
 have c0:w.cell? ⟨q,0, .none⟩=some (.int .i64 sp):=h0.cell 0
 have c1:w.cell? ⟨q,1, .none⟩=some (.int .i64 sc):=h0.cell 1
 have c2:w.cell? ⟨q,2, .none⟩=some (.int .i64 sm):=h0.cell 2
 have c3:w.cell? ⟨q,3, .none⟩=some (.int .i64 tc):=h0.cell 3
 have c5:w.cell? ⟨q,5, .none⟩=some (.int .i64 8):=h0.cell 5
 have c8:w.cell? ⟨q,8, .none⟩=some (.int .i64 ta):=h0.cell 8
 clear hat
 go_enter Tryz.func301,Tryz.ntmps301
 go_upto_region 1 with fail
 refine wp_region_ext_tail 14 (by kernel_rfl) (by kernel_rfl) ?_
 dsimp only [List.take,List.drop]
 repeat (go_big_quiet_step ((first | (go_at_call 136;exact ext_of (hcpp.out _)) | fail)))
 refine wpQuiet_nil ?_
 rintro _ ⟨e',rfl⟩
 have hZ:=h0.below e'.below
 generalize e'.w=Z at *
 change wpList _ _ _ _ _ Z
 clear lq h0
 go_wp2_with (first
  | (go_at_call 262;(with_reducible refine (hst.out _ hZ.wds).mono ?_);rintro r w2 ⟨rfl,hw2,ho2⟩;have hA:=hZ.access hw2 ho2)
  | (go_at_call 305;(with_reducible refine (htn.out _ hA.row).mono ?_);rintro r w3 hT;obtain rfl:=hT.ret)
  | fail)
 go_returns
 exact ⟨rfl,hA.turned hT⟩
end Go.Proofs.YtampacmmhhilaaaGreat

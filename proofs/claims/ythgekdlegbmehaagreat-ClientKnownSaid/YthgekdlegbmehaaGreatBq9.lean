/- The Claimer of slots in memory. -/
import Derived.Test.YthgekdlegbmehaaGreatBq8

set_option linter.all false
set_option maxHeartbeats 2000000
set_option maxRecDepth 100000
namespace Go.Proofs.YthgekdlegbmehaaGreat

open Go.RowKit

attribute [local go_sem ↓] Go.wp_at_zero Go.wp_at_succ

def zbt (s:Sh) (t:Sc):Array Value:= #[.int .i64 s.p,.int .i64 s.c,.int .i64 s.m,.int .i64 t.c,.int .i64 t.k,.int .i64 t.first,.int .i64 t.many,.int .i64 t.i,.int .i64 t.next,.bool t.found,.bool t.done]
theorem z1s (s:Sh) (c k f:Int) (w:World):
  Calls Tryz.prog 81 #[.agg #[.int .i64 s.p,.int .i64 s.c,.int .i64 s.m],.int .i64 c,.int .i64 k,.int .i64 f] w fun e w'=> Born w w' e (zbt s (ziq s c k f)) 165:=by
 have hg:=fun W=> zau s.p s.c s.m c W
 have hp:=fun W=> planPage_any s.p s.c s.m f W
 have hs:=fun W=> slots_any k W
 have hn:zbt s (ziq s c k f)= #[.int .i64 s.p,.int .i64 s.c,.int .i64 s.m,.int .i64 c,.int .i64 k,.int .i64 f,.int .i64 0,.int .i64 0,.int .i64 0,.bool false,.bool (!(decide (0<=zae s.p s.c s.m c) && decide (0 < zah k) && decide (0<=zak s.p s.c s.m f)))]:=rfl
 rw [hn]
 clear hn
 generalize zae s.p s.c s.m c=sx at *
 generalize zak s.p s.c s.m f=px at *
 generalize zah k=sv at *
 obtain ⟨sp,sc,sm⟩:=s
 dsimp only at hg hp ⊢
 replace hg:=hd' hg
 replace hp:=hd' hp
 replace hs:=hd' hs
 have hcs:(sx < 0)\/(0<=sx/\sv<=0)\/(0<=sx/\0 < sv/\px < 0)\/(0<=sx/\0 < sv/\0<=px):=by omega
 have hb0:=(Below.refl w.heap.size w).alloc lr (.cells #[.int .i64 sp,.int .i64 sc,.int .i64 sm] 24)
 have t0:=heap_alloc_new w (.cells #[.int .i64 sp,.int .i64 sc,.int .i64 sm] 24)
 go_enter Tryz.func81,Tryz.ntmps81
 go_upto_region 1 with fail
 generalize w.alloc (.cells #[.int .i64 sp,.int .i64 sc,.int .i64 sm] 24)=W at *
 obtain ⟨H,hH,hH'⟩:=hidv w.heap.size
 rw [<- hH'] at t0 ⊢
 have lH:H < W.heap.size:=(Array.getElem?_eq_some_iff.1 t0).1
 have c0:W.cell? ⟨H,0,.none⟩=some (.int .i64 sp):=zac t0 0
 have c1:W.cell? ⟨H,1,.none⟩=some (.int .i64 sc):=zac t0 1
 have c2:W.cell? ⟨H,2,.none⟩=some (.int .i64 sm):=zac t0 2
 clear hH' t0
 rcases hcs with h1 | ⟨h1,h2⟩ | ⟨h1,h2,h3⟩ | ⟨h1,h2,h3⟩
 all_goals
  go_wp2_with (first
   | (go_at_call 14;(with_reducible refine (hg.out _).mono ?_);rintro r w1 ⟨rfl,hb1⟩;have d0:=zai hb1 _ _ _ c0;have d1:=zai hb1 _ _ _ c1;have d2:=zai hb1 _ _ _ c2)
   | (go_at_call 59;(with_reducible refine (hp.out _).mono ?_);rintro r w2 ⟨rfl,hb2⟩;have k0:=zai hb2 _ _ _ d0;have k1:=zai hb2 _ _ _ d1;have k2:=zai hb2 _ _ _ d2)
   | (go_at_call 58;(with_reducible refine (hs.out _).mono ?_);rintro r w3 ⟨rfl,rfl⟩)
   | fail)
  go_returns
 ·exact za6 hb0 hb1 (by simp [Int.not_le.2 h1])
 ·exact za6 hb0 hb1 (by simp [h1,Int.not_lt.2 h2])
 ·exact za6 hb0 (zab hb1 hb2) (by simp [h1,h2,Int.not_le.2 h3])
 ·exact za6 hb0 (zab hb1 hb2) (by simp [h1,h2,h3])
theorem zoi (q:Nat) (s:Sh) (t:Sc) (w:World) (hq:zaa w q (zbt s t) 165) (hp:1<=s.p/\s.p<=64) (h1:0<=t.first/\t.first < 64) (h2:0<=t.many/\t.many<=64):
  Calls Tryz.prog 89 #[.pointer (some ⟨q,0,.none⟩)] w fun e w'=> e= .returned (.int .i64 (t.page s))/\Below w.heap.size w w':=by
 unfold Sc.page
 obtain ⟨sp,sc,sm⟩:=s
 obtain ⟨tc,tk,tf,tm,ti,tn,tfound,tdone⟩:=t
 dsimp only at hp h1 h2 ⊢
 have lq:=hq.lt
 have c0:=ci sp (hq.cell 0)
 have c5:=ci tf (hq.cell 5)
 have c6:=ci tm (hq.cell 6)
 obtain ⟨p1,p2⟩:=hp
 obtain ⟨f1,f2⟩:=h1
 obtain ⟨m1,m2⟩:=h2
 have w1:=wrp (tf + tm)
 have w2:(tf + tm).tmod sp=(tf + tm) % sp:=Int.tmod_eq_emod_of_nonneg (by omega)
 have w4:(sp==0)=false:=by simp;omega
 have w3:IntKind.i64.wrap ((tf + tm) % sp)=(tf + tm) % sp:=by
  have b1:=Int.emod_nonneg (tf + tm) (by omega:sp≠0)
  have b2:=Int.emod_lt_of_pos (tf + tm) (by omega:0 < sp)
  exact IntWalk.i64_in _ ⟨by omega,by omega⟩
 go_enter Tryz.func89,Tryz.ntmps89
 go_wp2_with fail
 go_quiet (fail)
 have hb:=below_drewN (Below.refl w.heap.size w) nq
 go_wp2_with fail
 go_returns
 exact ⟨rfl,hb⟩
theorem zok (q:Nat) (s:Sh) (t:Sc) (w:World) (hq:zaa w q (zbt s t) 165) (h2:0<=t.many/\t.many < 64):
  Calls Tryz.prog 185 #[.pointer (some ⟨q,0,.none⟩)] w fun e w'=> Turned q w w' e (zbt s (t.turn s)) 165:=by
 have h0:=At1.start hq
 clear hq
 unfold Sc.turn
 obtain ⟨sp,sc,sm⟩:=s
 obtain ⟨tc,tk,tf,tm,ti,tn,tfound,tdone⟩:=t
 dsimp only at h2 ⊢
 obtain ⟨m1,m2⟩:=h2
 obtain ⟨c0,c1,c2,c3,c4,c5,c6,c7⟩:=ci8 sp sc sm tc tk tf tm ti h0.cell
 have c8:=ci tn (h0.cell 8)
 have c9:=ce (.bool tfound) (h0.cell 9)
 have c10:=ce (.bool tdone) (h0.cell 10)
 have zf:=h0.free
 have w1:=wrp (tm + 1)
 go_enter Tryz.func185,Tryz.ntmps185
 go_upto_region 2 with fail
 have hB:=((h0.set 6 (.int .i64 (tm + 1))).set 7 (.int .i64 0)).set 8 (.int .i64 0)
 generalize World.setCell _ ⟨q,8,.none⟩ (.int .i64 0)=U at *
 clear c0 c1 c2 c3 c4 c5 c6 c7 c8 c9 c10 h0 zf
 have z0:=ci sp (hB.cell 0)
 have z6:=ci (tm + 1) (hB.cell 6)
 have lU:=hB.lt
 refine zad 13 (by kernel_rfl) (by kernel_rfl) ?_
 dsimp only [List.take,List.drop]
 repeat (go_big_quiet_step (fail))
 refine wpQuiet_nil ?_
 rintro _ ⟨e',rfl⟩
 have hC:=hB.below e'.below
 generalize e'.w=T at *
 change wpList _ _ _ _ _ T
 have k10:=ce (.bool tdone) (hC.cell 10)
 have zf:=hC.free
 go_wp2_with fail
 go_returns
 exact (hC.set 10 _).fin rfl
theorem zxm (q:Nat) (s:Sh) (t:Sc) (w:World) (hq:zaa w q (zbt s t) 165) (h2:0<=t.many/\t.many < 64) (h3:0<=t.i/\t.i < 16):
  Calls Tryz.prog 184 #[.pointer (some ⟨q,0,.none⟩)] w fun e w'=> Turned q w w' e (zbt s (t.miss s)) 165:=by
 have h0:=At1.start hq
 clear hq
 unfold Sc.miss
 have hsl:=fun W=> slots_any t.k W
 have htn:=fun Y (hY:zaa Y q (zbt s { t with i:=t.i + 1,next:=1 }) 165)=> zok q s { t with i:=t.i + 1,next:=1 } Y hY h2
 have hcs:t.i + 1=zah t.k\/(¬ t.i + 1=zah t.k/\(t.i + 1==zah t.k)=false):=by
  by_cases h:t.i + 1=zah t.k
  ·exact .inl h
  ·exact .inr ⟨h,by simpa using h⟩
 obtain ⟨t2,ht2,ht2'⟩:∃ t2:Sc,Hid (t2=if t.i + 1=zah t.k then ({ t with i:=t.i + 1,next:=1 }:Sc).turn s else { t with i:=t.i + 1,next:=1 })/\t2=_:=⟨_,hd' rfl,rfl⟩
 rw [<- ht2']
 clear ht2'
 generalize zah t.k=sv at *
 obtain ⟨sp,sc,sm⟩:=s
 obtain ⟨tc,tk,tf,tm,ti,tn,tfound,tdone⟩:=t
 dsimp only at h2 h3 hsl htn hcs ht2
 obtain ⟨i1,i2⟩:=h3
 clear h2
 replace hsl:=hd' hsl
 replace htn:=hd' htn
 obtain ⟨c0,c1,c2,c3,c4,c5,c6,c7⟩:=ci8 sp sc sm tc tk tf tm ti h0.cell
 have c8:=ci tn (h0.cell 8)
 have c9:=ce (.bool tfound) (h0.cell 9)
 have c10:=ce (.bool tdone) (h0.cell 10)
 have zf:=h0.free
 have w1:=wrp (ti + 1)
 go_enter Tryz.func184,Tryz.ntmps184
 go_upto_region 2 with fail
 have hB:=(h0.set 7 (.int .i64 (ti + 1))).set 8 (.int .i64 1)
 generalize World.setCell _ ⟨q,8,.none⟩ (.int .i64 1)=U at *
 clear c0 c1 c2 c3 c4 c5 c6 c7 c8 c9 c10 h0 zf
 have z4:=ci tk (hB.cell 4)
 have z7:=ci (ti + 1) (hB.cell 7)
 have lU:=hB.lt
 refine zaj (by kernel_rfl) (by kernel_rfl) ?_
 repeat (go_big_quiet_step ((first | (go_at_call 58;exact zdx ((hsl.out _).mono fun _ _ h=> ⟨h.1,h.2⟩)) | fail)))
 refine wpQuiet_nil ?_
 rintro _ ⟨e',rfl⟩
 have hX:=hB.below e'.below
 generalize e'.w=X at *
 rcases hcs with hcs | ⟨hn,hcs⟩
 ·subst hcs
  replace ht2:=hd' (ht2.out.trans (if_pos rfl))
  go_wp2_with (first | (go_at_call 185;(with_reducible refine (htn.out _ hX.row).mono ?_);rintro r w1 hT;obtain rfl:=hT.ret) | fail)
  go_returns
  exact (hX.turned hT).fin (by rw [ht2.out])
 ·replace ht2:=hd' (ht2.out.trans (if_neg hn))
  clear hn
  go_wp2_with fail
  go_returns
  exact hX.fin (by rw [ht2.out];rfl)
theorem zqa {l:List Oper} {aF:Act} {Q:Exit->Act->World->Prop} {x:zd0} {a0 a1 a2:Int} {ty1 ty2:TypeId} {p1 p2:String} {af1 af2:Array Edge} {oz:Oper}
  (ht:x.t=120) (hz:x.zero= #[.int .i64 0,.int .i64 0,.int .i64 0]) (hv:x.val= #[.int .i64 a0,.int .i64 a1,.int .i64 a2]) (hF:aF.eval (.tmp x.src)= .agg #[.int .i64 a0,.int .i64 a1,.int .i64 a2])
  (h1:l.toArray[x.al]?=some { dst:=some x.d,op:= .alloc 120,type:=ty1,pos:=p1,after:=af1,guard:=none })
  (h2:l.toArray[x.st]?=some { dst:=none,op:= .store 120 (.tmp x.d) (.tmp x.src),type:=ty2,pos:=p2,after:=af2,guard:=none })
  (h3:l.toArray[x.so]?=some oz) (h4:oz.dst=some x.src) (ha:(af2.any fun e=> Region.binds .any e && e.on==x.al)=true) (hs:(af2.any fun e=> Region.binds .any e && e.on==x.so)=true):ze2 Tryz.prog l Q aF x:=by
 obtain ⟨al,st,so,d,src,t,zero,val⟩:=x
 subst ht hz hv
 dsimp only at *
 refine ⟨fun a w K hK=> ?_,fun a w K M e1 e2 hM hK=> ?_,fun listed hr=> ?_,⟨oz,h3,h4⟩⟩
 ·unfold wpOp
  rw [h1]
  simp only [Region.wanted,if_true]
  left
  simp [go_sem,Oper.wp]
  exact hK
 ·unfold wpOp
  rw [h2]
  simp only [Region.wanted,if_true]
  left
  have m0:w.cell? ⟨M,0,.none⟩=some (.int .i64 0):=zac hM 0
  have m1:w.cell? ⟨M,1,.none⟩=some (.int .i64 0):=zac hM 1
  have m2:w.cell? ⟨M,2,.none⟩=some (.int .i64 0):=zac hM 2
  have f0:∀ i,w.frozen? ⟨M,i,.none⟩=false:=fun i=> zax hM i
  rw [<- e2] at hF
  have e3:a.tmps[d]?.getD undef= .pointer (some ⟨M,0,.none⟩):=by simpa [Act.eval,vptr] using e1
  have e4:a.tmps[src]?.getD undef= .agg #[.int .i64 a0,.int .i64 a1,.int .i64 a2]:=by simpa [Act.eval] using hF
  simp [go_sem,Oper.wp,e3,e4,m0,m1,m2,f0]
  refine hK _ ?_ ?_ ?_
  ·rw [heap_setCell_same _ M 2 _ _ _ (heap_setCell_same _ M 1 _ _ _ (heap_setCell_same _ M 0 _ _ _ hM))];rfl
  ·exact ((((Only.refl (fun k=> k=M) w).setCell (p:=⟨M,0,.none⟩) (.inl rfl) _).setCell (p:=⟨M,1,.none⟩) (.inl rfl) _).setCell (p:=⟨M,2,.none⟩) (.inl rfl) _)
  ·simp [World.setCell]
 ·obtain ⟨_,o,ho,he⟩:=mem_ready.1 hr
  rw [h2] at ho
  injection ho with ho
  subst ho
  have out:∀ n,(af2.any fun e=> Region.binds .any e && e.on==n)=true->listed.getD n false=true:=fun n hn=> by
   obtain ⟨i,hi,hu⟩:=Array.any_eq_true.1 hn
   simp only [Bool.and_eq_true,beq_iff_eq] at hu
   exact hu.2 ▸ he _ (Array.getElem_mem hi) hu.1
  exact ⟨out _ ha,out _ hs⟩
theorem zys (q p b:Nat) (s:Sh) (t:Sc) (m:Mem) (w:World) (hq:zaa w q (zbt s t) 165) (hw:zaq w p b m) (hqp:q≠p) (hqb:q≠b) (hf:Fits s m) (ho:scOk s t) (hs:m.st < 1000000000):
  Calls Tryz.prog 183 #[.pointer (some ⟨q,0,.none⟩),.pointer (some ⟨p,0,.none⟩)] w fun e w'=> Stepped q p b w w' e (zbt s (zed s t m).1) 165 (zed s t m).2:=by
 have h0:=At3.start hq hw hqp hqb
 clear hq hw
 rcases Bool.eq_false_or_eq_true t.done with hd | hd
 ·have hr:zed s t m=(t,m):=by unfold zed;rw [if_pos hd]
  rw [hr]
  clear hr
  have c10:w.cell? ⟨q,10,.none⟩=some (.bool true):=by rw [<- hd];exact h0.cell 10
  clear ho hd hf
  go_enter Tryz.func183,Tryz.ntmps183
  go_wp2_with fail
  go_returns
  exact h0.fin rfl rfl
 obtain ⟨hc,hk,hfi,hmn,hi,hn⟩:=ho.cl hd
 have hbd:=hf.bd
 have hi16:0<=t.i/\t.i < 16:=by have:=zdg hk;omega
 have hpg:0<=t.page s/\t.page s < s.p:=⟨Int.emod_nonneg _ (by omega),Int.emod_lt_of_pos _ (by omega)⟩
 obtain ⟨hpx,hph⟩:=hf.page hpg
 obtain ⟨hsx,hsh⟩:=hf.slot hpg hi16
 have hcpg:=fun Y (hY:zaa Y q (zbt s t) 165)=> zoi q s t Y hY (by omega) (by omega) (by omega)
 have hcpp:=fun Y=> planPage_any s.p s.c s.m (t.page s) Y
 have hcsl:=fun Y=> zbm s.p s.c s.m (t.page s) t.i Y
 have hcps:=fun k Y=> zbl k t.k Y
 have hcpw:=fun Y=> zbl 2 t.c Y
 have hctn:=fun t' (h:t'.many=t.many) Y (hY:zaa Y q (zbt s t') 165)=> zok q s t' Y hY (by omega)
 have hcms:=fun t' (h:t'.many=t.many) (h2:t'.i=t.i) Y (hY:zaa Y q (zbt s t') 165)=> zxm q s t' Y hY (by omega) (by omega)
 rw [hpx] at hcpp
 rw [hsx] at hcsl
 obtain ⟨r,hr⟩:∃ r,r=zed s t m:=⟨_,rfl⟩
 rw [<- hr]
 unfold zed at hr
 rw [if_neg (by rw [hd];decide)] at hr
 dsimp only at hr
 rw [hpx,hsx] at hr
 have hnx:t.next=0\/t.next=1\/t.next=2:=by omega
 have hlp:=fun Y (hY:zaq Y p b m)=> zc1 p b m t.c (s.c + t.page s) Y hY hph hs
 have hls:=fun Y (hY:zaq Y p b m)=> zc1 p b m t.c (s.c + s.p + t.page s * 16 + t.i) Y hY hsh hs
 have hsw:=fun Y (hY:zaq Y p b m)=> zff p b m t.c (s.c + s.p + t.page s * 16 + t.i) (zc8 t.k) (wayW t.c) Y hY hsh (zch _ _) hs
 have hrp:=fun Y=> zh3 s (t.page s) (m.get (s.c + t.page s)) Y (Mem.ze4 h0.wds.fit _)
 generalize s.c + s.p + t.page s * 16 + t.i=sa at hls hsw hcsl hr
 generalize s.c + t.page s=pa at hlp hcpp hrp hr
 generalize hpgq:t.page s=pg at hcpg hcpp hcsl hrp hr
 clear hpgq hph hsh hpx hsx hpg ho hf hi16 hmn hfi hi
 have hop:Hid (zc8 t.k=zc3 1 t.k):=hd' rfl
 have hwy:Hid (wayW t.c=zc3 2 t.c):=hd' rfl
 rw [<- hwy.out] at hcpw
 have hcpo:=fun Y=> hcps 1 Y
 rw [<- hop.out] at hcpo
 clear hcps hop hwy
 generalize zc8 t.k=ow at hcpo hsw hr
 generalize wayW t.c=ww at hcpw hsw hr
 rcases hnx with hnx | hnx | hnx
 ·rw [if_pos hnx] at hr
  obtain ⟨x,hx⟩:∃ x,x=m.get pa:=⟨_,rfl⟩
  rw [<- hx] at hlp hrp hr
  clear hx hls hsw hcms
  have hr2:r=(if zal s.p s.c s.m pg x=true/\pgK s pg x=2/\pgP s pg x 0=t.k then { t with next:=1 } else t.turn s,m.load t.c pa):=by
   rw [hr]
   unfold pgK pgP
   by_cases hB:zal s.p s.c s.m pg x=true <;> simp [hB]
  clear hr
  generalize zal s.p s.c s.m pg x=B at hrp hr2
  generalize pgK s pg x=e0 at hrp hr2
  generalize pgP s pg x 0=e1 at hrp hr2
  generalize pgP s pg x 1=e2 at hrp
  obtain ⟨t2,ht2,ht2'⟩:∃ t2:Sc,Hid (t2=if B=true/\e0=2/\e1=t.k then { t with next:=1 } else t.turn s)/\t2=_:=⟨_,hd' rfl,rfl⟩
  rw [<- ht2'] at hr2
  clear ht2'
  subst hr2
  replace hctn:=fun Y (hY:zaa Y q (zbt s t) 165)=> hctn t rfl Y hY
  obtain ⟨tc,tk,tf,tm,ti,tn,tfound,tdone⟩:=t
  obtain ⟨sp,sc,sm⟩:=s
  dsimp only at hd hnx hlp hrp hcpg hcpp hcsl hcpo hcpw hctn ht2 ⊢
  subst hd hnx
  replace hlp:=hd' hlp
  replace hrp:=hd' hrp
  replace hcpg:=hd' hcpg
  replace hcpp:=hd' hcpp
  replace hcsl:=hd' hcsl
  replace hcpo:=hd' hcpo
  replace hctn:=hd' hctn
  clear hcpw hc hk hbd
  have lq:=h0.lt
  obtain ⟨c0,c1,c2,c3,c4,c5,c6,c7⟩:=ci8 sp sc sm tc tk tf tm ti h0.cell
  have c8:=ci 0 (h0.cell 8)
  have c9:=ce (.bool tfound) (h0.cell 9)
  have c10:=ce (.bool false) (h0.cell 10)
  go_enter Tryz.func183,Tryz.ntmps183
  go_upto_region 1 with fail
  refine zaj (by kernel_rfl) (by kernel_rfl) ?_
  repeat (go_big_quiet_step ((first | (go_at_call 89;exact zam (hcpg.out _ (h0.row.below (Ext.below _)))) | (go_at_call 120;exact zam (hcsl.out _)) | fail)))
  refine wpQuiet_nil ?_
  rintro _ ⟨e',rfl⟩
  have hX:=h0.below e'.below
  generalize e'.w=X at *
  clear c0 c1 c2 c3 c4 c5 c6 c7 c8 c9 c10 h0 lq
  have k4:=ci tk (hX.cell 4)
  have k8:=ci 0 (hX.cell 8)
  go_upto_region 5 with (first | (go_at_call 121;(with_reducible refine (hcpo.out _).mono ?_);rintro r w1 ⟨rfl,hb1⟩;have hY:=hX.below hb1;have z8:=ci 0 (hY.cell 8)) | fail)
  clear k4 k8 z8 hX
  go_cut [6,7] (fun s6 s7 wx=> ∃ E,s6= .pointer (some ⟨E,0,.none⟩)/\s7= .bool B/\w.heap.size<=E/\zaa wx E #[.int .i64 e0,.int .i64 e1,.int .i64 e2] 120/\At3 q p b w wx (zbt ⟨sp,sc,sm⟩ ⟨tc,tk,tf,tm,ti,0,tfound,false⟩) 165 (m.load tc pa))
  case first=>
   refine zcl (x:=⟨23,24,21,6,60,120, #[.int .i64 0,.int .i64 0,.int .i64 0], #[.int .i64 e0,.int .i64 e1,.int .i64 e2]⟩) (ld:=18) (v:= .int .u64 x) (ts:= [46,50,57])
    (K0:=fun Y=> At3 q p b w Y (zbt ⟨sp,sc,sm⟩ ⟨tc,tk,tf,tm,ti,0,tfound,false⟩) 165 m) (K1:=fun Y=> At3 q p b w Y (zbt ⟨sp,sc,sm⟩ ⟨tc,tk,tf,tm,ti,0,tfound,false⟩) 165 (m.load tc pa))
    (by kernel_rfl) (by simp only [zfq,zej,nopO,nopC,Nat.reduceBEq,Bool.or_false,Bool.or_true,Bool.false_eq_true,↓reduceIte,Nat.reduceAdd];exact rfl) (by kernel_rfl) (by kernel_rfl) (by kernel_rfl) (by dsimp only;decide) (by dsimp only;simp) (by dsimp only;decide) (by dsimp only;simp) (by kernel_rfl) (by dsimp only;decide) (by simp)
    ⟨⟨fun Y Y' h1 h2 h3=> h1.far h2 h3 hY.only.size⟩,⟨fun Y Y' h1 h2 h3=> h1.far h2 h3 hY.only.size⟩⟩ hY.drew ?_
   apply Exists.intro
   refine ⟨fun B hb hs=> ?_,fun _=> ?_,?_,?_⟩
   case refine_1=>
    have hrB:zaa B q (zbt ⟨sp,sc,sm⟩ ⟨tc,tk,tf,tm,ti,0,tfound,false⟩) 165:=hb.elim (fun h=> h.row) (fun h=> h.row)
    have lB:=hrB.lt
    obtain ⟨k0,k1,k2,k3⟩:=ci4 sp sc sm tc hrB.cell
    repeat (go_big_quiet_step ((first | (go_at_call 89;exact zam (hcpg.out _ (hrB.below (Ext.below _)))) | (go_at_call 59;exact zam (hcpp.out _)) | (go_at_call 122;exact zam (hrp.out _)) | fail)))
    exact wpQuiet_nil rfl
   case refine_2=> exact zqa rfl rfl rfl rfl rfl rfl rfl rfl (by dsimp only;decide +kernel) (by dsimp only;decide +kernel)
   case refine_3=> exact zcz rfl (fun _ _=> by simp [go_sem]) fun Y hY2 hs=> (hlp.out Y hY2.wds).mono fun r Y' ⟨h1,h2,h3⟩=> ⟨h1,hY2.load h2 h3,h3.weak fun k hk=> hk ▸ Nat.lt_of_lt_of_le hY2.ls.2.1 hY.only.size⟩
   case refine_4=>
    intro a w4 M hf
    obtain ⟨rfl,hbig,hk1,hone⟩:=hf
    obtain ⟨hM,hone⟩:=hone (by simp)
    simp only [Act.put,vput,vptr]
    go_wp2
    go_meet
    exact ⟨_,rfl,rfl,Nat.le_trans hY.only.size hM,hone,hk1⟩
  case rest=>
   obtain ⟨E,rfl,rfl,hE,hEr,hA⟩:=hcut
   have hEq:E≠q:=fun e=> by rw [e] at hE;have:=hY.ls.1;omega
   have g0:=ci e0 (hEr.cell 0)
   have g1:=ci e1 (hEr.cell 1)
   obtain ⟨z0,z1,z2,z3,z4,z5,z6,z7⟩:=ci8 sp sc sm tc tk tf tm ti hA.cell
   have z8:=ci 0 (hA.cell 8)
   have z9:=ce (.bool tfound) (hA.cell 9)
   have z10:=ce (.bool false) (hA.cell 10)
   have zf:=hA.free
   clear hY hlp hrp hcpg hcpp hcsl hcpo hb1
   by_cases hB:B=true/\e0=2/\e1=tk
   ·obtain ⟨rfl,rfl,rfl⟩:=hB
    replace ht2:=hd' (ht2.out.trans (if_pos ⟨rfl,rfl,rfl⟩))
    go_wp2_with fail
    go_quiet (fail)
    have hA2:=hA.drewN nq
    clear g0 g1 z0 z1 z2 z3 z4 z5 z6 z7 z8 z9 z10 zf hEr hA
    generalize wc.drewN nq=V at *
    have z8:=ci 0 (hA2.cell 8)
    have zf:=hA2.free
    go_wp2_with fail
    go_returns
    exact (hA2.set 8 _).fin (by rw [ht2.out];rfl) rfl
   ·replace ht2:=hd' (ht2.out.trans (if_neg hB))
    have hne:B=false\/(B=true/\(e0==2)=false)\/(B=true/\e0=2/\(e1==tk)=false):=by
     rcases Bool.eq_false_or_eq_true B with h | h
     ·by_cases h1:e0=2
      ·exact .inr (.inr ⟨h,h1,by simpa [h,h1] using hB⟩)
      ·exact .inr (.inl ⟨h,by simpa using h1⟩)
     ·exact .inl h
    clear hB
    rcases hne with rfl | ⟨rfl,hne⟩ | ⟨rfl,rfl,hne⟩
    all_goals
     go_wp2_with fail
     go_quiet (fail)
     have hA2:=hA.drewN nq
     clear g0 g1 z0 z1 z2 z3 z4 z5 z6 z7 z8 z9 z10 zf hEr hA
     generalize wc.drewN nq=V at *
     go_wp2_with (first | (go_at_call 185;(with_reducible refine (hctn.out _ hA2.row).mono ?_);rintro r w1 hT;obtain rfl:=hT.ret) | fail)
     go_returns
     exact (hA2.turned hT).fin (by rw [ht2.out]) rfl
 ·rw [if_neg (by omega),if_pos hnx] at hr
  clear hlp hrp hsw hcpw hctn hcpp
  have hcs:m.get sa=ow\/(¬ m.get sa=ow/\(m.get sa==ow)=false):=by
   by_cases h:m.get sa=ow
   ·exact .inl h
   ·exact .inr ⟨h,by simpa using h⟩
  obtain ⟨t2,ht2,ht2'⟩:∃ t2:Sc,Hid (t2=if m.get sa=ow then { t with next:=2 } else t.miss s)/\t2=_:=⟨_,hd' rfl,rfl⟩
  rw [<- ht2'] at hr
  clear ht2'
  subst hr
  replace hcms:=fun Y (hY:zaa Y q (zbt s t) 165)=> hcms t rfl rfl Y hY
  obtain ⟨x,hx,hx'⟩:=hidv (m.get sa)
  rw [<- hx'] at hls hcs ht2
  clear hx hx'
  obtain ⟨tc,tk,tf,tm,ti,tn,tfound,tdone⟩:=t
  obtain ⟨sp,sc,sm⟩:=s
  dsimp only at hd hnx hls hcpg hcsl hcpo hcms ht2 ⊢
  subst hd hnx
  replace hcpg:=hd' hcpg
  replace hcsl:=hd' hcsl
  replace hcpo:=hd' hcpo
  replace hcms:=hd' hcms
  clear hc hk hbd
  have lq:=h0.lt
  obtain ⟨c0,c1,c2,c3,c4,c5,c6,c7⟩:=ci8 sp sc sm tc tk tf tm ti h0.cell
  have c8:=ci 1 (h0.cell 8)
  have c9:=ce (.bool tfound) (h0.cell 9)
  have c10:=ce (.bool false) (h0.cell 10)
  go_enter Tryz.func183,Tryz.ntmps183
  go_upto_region 1 with fail
  refine zaj (by kernel_rfl) (by kernel_rfl) ?_
  repeat (go_big_quiet_step ((first | (go_at_call 89;exact zam (hcpg.out _ (h0.row.below (Ext.below _)))) | (go_at_call 120;exact zam (hcsl.out _)) | fail)))
  refine wpQuiet_nil ?_
  rintro _ ⟨e',rfl⟩
  have hX:=h0.below e'.below
  generalize e'.w=X at *
  clear c0 c1 c2 c3 c4 c5 c6 c7 c8 c9 c10 h0 lq
  have k4:=ci tk (hX.cell 4)
  have k8:=ci 1 (hX.cell 8)
  replace hls:=hd' hls
  rcases hcs with rfl | ⟨hne,hcs⟩
  ·replace ht2:=hd' (ht2.out.trans (if_pos rfl))
   go_wp2_with (first | (go_at_call 121;(with_reducible refine (hcpo.out _).mono ?_);rintro r w1 ⟨rfl,hb1⟩;have hY:=hX.below hb1;have z3:=ci tc (hY.cell 3);have z8:=ci 1 (hY.cell 8)) | (go_at_call 123;(with_reducible refine (hls.out _ hY.wds).mono ?_);rintro r w2 ⟨rfl,hw2,ho2⟩;have hA:=hY.load hw2 ho2;have y8:=ci 1 (hA.cell 8);have zf:=hA.free) | (go_at_call 184;(with_reducible refine (hcms.out _ hA.row).mono ?_);rintro r w3 hT;obtain rfl:=hT.ret) | fail)
   go_returns
   exact (hA.set 8 _).fin (by rw [ht2.out];rfl) rfl
  ·replace ht2:=hd' (ht2.out.trans (if_neg hne))
   clear hne
   go_wp2_with (first | (go_at_call 121;(with_reducible refine (hcpo.out _).mono ?_);rintro r w1 ⟨rfl,hb1⟩;have hY:=hX.below hb1;have z3:=ci tc (hY.cell 3);have z8:=ci 1 (hY.cell 8)) | (go_at_call 123;(with_reducible refine (hls.out _ hY.wds).mono ?_);rintro r w2 ⟨rfl,hw2,ho2⟩;have hA:=hY.load hw2 ho2;have y8:=ci 1 (hA.cell 8);have zf:=hA.free) | (go_at_call 184;(with_reducible refine (hcms.out _ hA.row).mono ?_);rintro r w3 hT;obtain rfl:=hT.ret) | fail)
   go_returns
   exact (hA.turned hT).fin (by rw [ht2.out]) rfl
 ·rw [if_neg (by omega),if_neg (by omega)] at hr
  clear hlp hrp hls hctn hcpp
  have hcs:(m.get sa=ow/\decide (m.get sa=ow)=true)\/(¬ m.get sa=ow/\decide (m.get sa=ow)=false):=by
   by_cases h:m.get sa=ow
   ·exact .inl ⟨h,decide_eq_true h⟩
   ·exact .inr ⟨h,decide_eq_false h⟩
  obtain ⟨t2,ht2,ht2'⟩:∃ t2:Sc,Hid (t2=if m.get sa=ow then { t with found:=true,done:=true } else t.miss s)/\t2=_:=⟨_,hd' rfl,rfl⟩
  rw [<- ht2'] at hr
  clear ht2'
  subst hr
  replace hcms:=fun Y (hY:zaa Y q (zbt s t) 165)=> hcms t rfl rfl Y hY
  obtain ⟨g,hg,hg'⟩:∃ g,Hid (g=decide (m.get sa=ow))/\g=decide (m.get sa=ow):=⟨_,hd' rfl,rfl⟩
  rw [<- hg'] at hsw hcs
  clear hg hg'
  obtain ⟨tc,tk,tf,tm,ti,tn,tfound,tdone⟩:=t
  obtain ⟨sp,sc,sm⟩:=s
  dsimp only at hd hnx hsw hcpg hcsl hcpo hcpw hcms ht2 ⊢
  subst hd hnx
  replace hcpg:=hd' hcpg
  replace hcsl:=hd' hcsl
  replace hcpo:=hd' hcpo
  replace hcms:=hd' hcms
  clear hc hk hbd
  have lq:=h0.lt
  obtain ⟨c0,c1,c2,c3,c4,c5,c6,c7⟩:=ci8 sp sc sm tc tk tf tm ti h0.cell
  have c8:=ci 2 (h0.cell 8)
  have c9:=ce (.bool tfound) (h0.cell 9)
  have c10:=ce (.bool false) (h0.cell 10)
  go_enter Tryz.func183,Tryz.ntmps183
  go_upto_region 1 with fail
  refine zaj (by kernel_rfl) (by kernel_rfl) ?_
  repeat (go_big_quiet_step ((first | (go_at_call 89;exact zam (hcpg.out _ (h0.row.below (Ext.below _)))) | (go_at_call 120;exact zam (hcsl.out _)) | fail)))
  refine wpQuiet_nil ?_
  rintro _ ⟨e',rfl⟩
  have hX:=h0.below e'.below
  generalize e'.w=X at *
  clear c0 c1 c2 c3 c4 c5 c6 c7 c8 c9 c10 h0 lq
  have k4:=ci tk (hX.cell 4)
  have k8:=ci 2 (hX.cell 8)
  replace hsw:=hd' hsw
  replace hcpw:=hd' hcpw
  go_upto_region 14 with (first | (go_at_call 121;(with_reducible refine (hcpo.out _).mono ?_);rintro r w1 ⟨rfl,hb1⟩;have hY:=hX.below hb1;have z3:=ci tc (hY.cell 3);have z8:=ci 2 (hY.cell 8)) | fail)
  clear k4 k8 z8 hX
  have lY:=hY.lt
  have z3:=ci tc (hY.cell 3)
  rcases hcs with ⟨hne,rfl⟩ | ⟨hne,rfl⟩
  ·replace ht2:=hd' (ht2.out.trans (if_pos hne))
   clear hne
   refine zad 13 (by kernel_rfl) (by kernel_rfl) ?_
   dsimp only [List.take,List.drop]
   repeat (go_big_quiet_step ((first | (go_at_call 121;exact zam (hcpw.out _)) | fail)))
   refine wpQuiet_nil ?_
   rintro _ ⟨e',rfl⟩
   have hZ:=hY.below e'.below
   generalize e'.w=Z at *
   change wpList _ _ _ _ _ Z
   go_wp2_with (first | (go_at_call 126;(with_reducible refine (hsw.out _ hZ.wds).mono ?_);rintro r w2 ⟨rfl,hw2,ho2⟩;have hA:=hZ.access hw2 ho2;have y9:=ce (.bool tfound) (hA.cell 9);have y10:=ce (.bool false) (hA.cell 10);have zf:=hA.free) | fail)
   go_returns
   exact ((hA.set 9 _).set 10 _).fin (by rw [ht2.out];rfl) rfl
  ·replace ht2:=hd' (ht2.out.trans (if_neg hne))
   clear hne
   refine zad 13 (by kernel_rfl) (by kernel_rfl) ?_
   dsimp only [List.take,List.drop]
   repeat (go_big_quiet_step ((first | (go_at_call 121;exact zam (hcpw.out _)) | fail)))
   refine wpQuiet_nil ?_
   rintro _ ⟨e',rfl⟩
   have hZ:=hY.below e'.below
   generalize e'.w=Z at *
   change wpList _ _ _ _ _ Z
   go_wp2_with (first | (go_at_call 126;(with_reducible refine (hsw.out _ hZ.wds).mono ?_);rintro r w2 ⟨rfl,hw2,ho2⟩;have hA:=hZ.access hw2 ho2) | (go_at_call 184;(with_reducible refine (hcms.out _ hA.row).mono ?_);rintro r w3 hT;obtain rfl:=hT.ret) | fail)
   go_returns
   exact (hA.turned hT).fin (by rw [ht2.out]) rfl
end Go.Proofs.YthgekdlegbmehaaGreat

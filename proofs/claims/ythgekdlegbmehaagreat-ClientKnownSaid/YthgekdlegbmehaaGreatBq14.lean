/- The Runner in memory: its small methods. -/
import Derived.Test.YthgekdlegbmehaaGreatBq13

set_option linter.all false
set_option maxHeartbeats 1000000
namespace Go.Proofs.YthgekdlegbmehaaGreat

open Go.RowKit

attribute [local go_sem ↓] Go.wp_at_zero Go.wp_at_succ

def zbz (o:Option Sp) (q:Nat):Value:=match o with
 | none=> .pointer none
 | some _=> .pointer (some ⟨q,0,.none⟩)
def za3 (s:Sh) (t:Rn) (sv:Value):Array Value:= #[.int .i64 s.p,.int .i64 s.c,.int .i64 s.m,.int .i64 t.c,.int .i64 t.pages,.int .i64 t.head,.int .i64 t.at',.int .i64 t.i,.int .i64 t.next,sv,.bool t.found,.bool t.done]
structure RnAt (w:World) (q q2:Nat) (s:Sh) (t:Rn):Prop where
 row:zaa w q (za3 s t (zbz t.strip q2)) 140
 inn:∀ x,t.strip=some x->zaa w q2 (zc9 s x) 170/\q≠q2
theorem z07 (s:Sh) (c n:Int) (w:World):
  Calls Tryz.prog 52 #[.agg #[.int .i64 s.p,.int .i64 s.c,.int .i64 s.m],.int .i64 c,.int .i64 n] w fun e w'=> Born w w' e (za3 s (zf8 s c n) (.pointer none)) 140:=by
 have hg:=fun W=> zau s.p s.c s.m c W
 have hn:za3 s (zf8 s c n) (.pointer none)= #[.int .i64 s.p,.int .i64 s.c,.int .i64 s.m,.int .i64 c,.int .i64 n,.int .i64 0,.int .i64 0,.int .i64 0,.int .i64 0,.pointer none,.bool false,.bool (!(decide (0<=zae s.p s.c s.m c) && decide (1<=n) && decide (n<=8) && decide (n<=s.p)))]:=rfl
 rw [hn]
 clear hn
 generalize zae s.p s.c s.m c=sx at *
 obtain ⟨sp,sc,sm⟩:=s
 dsimp only at hg ⊢
 replace hg:=hd' hg
 have hcs:(sx < 0)\/(0<=sx/\n < 1)\/(0<=sx/\1<=n/\8 < n)\/(0<=sx/\1<=n/\n<=8/\sp < n)\/(0<=sx/\1<=n/\n<=8/\n<=sp):=by omega
 have hb0:=(Below.refl w.heap.size w).alloc lr (.cells #[.int .i64 sp,.int .i64 sc,.int .i64 sm] 24)
 have t0:=heap_alloc_new w (.cells #[.int .i64 sp,.int .i64 sc,.int .i64 sm] 24)
 go_enter Tryz.func52,Tryz.ntmps52
 go_upto_region 1 with fail
 generalize w.alloc (.cells #[.int .i64 sp,.int .i64 sc,.int .i64 sm] 24)=W at *
 obtain ⟨H,hH,hH'⟩:=hidv w.heap.size
 rw [<- hH'] at t0 ⊢
 have lH:H < W.heap.size:=(Array.getElem?_eq_some_iff.1 t0).1
 have c0:W.cell? ⟨H,0,.none⟩=some (.int .i64 sp):=zac t0 0
 have c1:W.cell? ⟨H,1,.none⟩=some (.int .i64 sc):=zac t0 1
 have c2:W.cell? ⟨H,2,.none⟩=some (.int .i64 sm):=zac t0 2
 clear hH' t0
 rcases hcs with h1 | ⟨h1,h2⟩ | ⟨h1,h2,h3⟩ | ⟨h1,h2,h3,h4⟩ | ⟨h1,h2,h3,h4⟩
 all_goals
  go_wp2_with (first
   | (go_at_call 14;(with_reducible refine (hg.out _).mono ?_);rintro r w1 ⟨rfl,hb1⟩;have d0:=zai hb1 _ _ _ c0;have d1:=zai hb1 _ _ _ c1;have d2:=zai hb1 _ _ _ c2)
   | fail)
  go_returns
 ·exact za6 hb0 hb1 (by simp [Int.not_le.2 h1])
 ·exact za6 hb0 hb1 (by simp [h1,Int.not_le.2 h2])
 ·exact za6 hb0 hb1 (by simp [h1,h2,Int.not_le.2 h3])
 ·exact za6 hb0 hb1 (by simp [h1,h2,h3,Int.not_le.2 h4])
 ·exact za6 hb0 hb1 (by simp [h1,h2,h3,h4])
theorem zy1 (q:Nat) (cs:Array Value) (v:Bool) (w:World) (h:zaa w q cs 140) (hv:cs[11]?=some (.bool v)):Calls Tryz.prog 77 #[.pointer (some ⟨q,0,.none⟩)] w fun e w'=> e= .returned (.bool v)/\w'=w:=by
 have c:=(h.cell 11).trans hv
 clear h hv
 go_enter Tryz.func77,Tryz.ntmps77
 go_wp2_with fail
 go_returns
 exact ⟨rfl,rfl⟩
theorem zvi (q:Nat) (s:Sh) (t:Rn) (sv:Value) (w:World) (hq:zaa w q (za3 s t sv) 140):
  Calls Tryz.prog 75 #[.pointer (some ⟨q,0,.none⟩)] w fun e w'=> e= .returned (.tuple #[.int .i64 (if t.found=true then t.head else 0),.bool t.found])/\w'=w:=by
 obtain ⟨tc,tn,th,ta,ti,tx,tstrip,tfound,tdone⟩:=t
 obtain ⟨sp,sc,sm⟩:=s
 have lq:=hq.lt
 have c5:=ci th (hq.cell 5)
 have c10:=ce (.bool tfound) (hq.cell 10)
 clear hq
 dsimp only
 cases tfound
 all_goals
  go_enter Tryz.func75,Tryz.ntmps75
  go_wp2_with fail
  go_returns
  exact ⟨rfl,rfl⟩
theorem znf (w:World):Calls Tryz.prog 75 #[.pointer none] w fun e w'=> e= .returned (.tuple #[.int .i64 0,.bool false])/\w'=w:=by
 go_enter Tryz.func75,Tryz.ntmps75
 go_wp2_with fail
 go_returns
 exact ⟨rfl,rfl⟩
theorem zpd (p:Nat) (w:World):
  Calls Tryz.prog 117 #[.pointer none,.pointer (some ⟨p,0,.none⟩)] w fun e w'=> e= .returned (.tuple #[])/\w'=w:=by
 go_enter Tryz.func117,Tryz.ntmps117
 go_wp2_with fail
 go_returns
 exact ⟨rfl,rfl⟩
theorem zj5 (q:Nat) (s:Sh) (t:Rn) (sv:Value) (w:World) (hq:zaa w q (za3 s t sv) 140) (h1:0<=t.i/\t.i < 80) (h2:0<=t.head/\t.head<=64) (h3:0<=t.pages/\t.pages<=8):
  Calls Tryz.prog 133 #[.pointer (some ⟨q,0,.none⟩)] w fun e w'=> Turned q w w' e (za3 s t.written sv) 140:=by
 have h0:=At1.start hq
 clear hq
 unfold Rn.written
 have hcs:t.i + 1=t.head + t.pages\/(¬ t.i + 1=t.head + t.pages/\(t.i + 1==t.head + t.pages)=false):=by
  by_cases h:t.i + 1=t.head + t.pages
  ·exact .inl h
  ·exact .inr ⟨h,by simpa using h⟩
 obtain ⟨t2,ht2,ht2'⟩:∃ t2:Rn,Hid (t2=if t.i + 1=t.head + t.pages then { t with i:=t.i + 1,found:=true,done:=true } else { t with i:=t.i + 1 })/\t2=_:=⟨_,hd' rfl,rfl⟩
 rw [<- ht2']
 clear ht2'
 obtain ⟨sp,sc,sm⟩:=s
 obtain ⟨tc,tn,th,ta,ti,tx,tstrip,tfound,tdone⟩:=t
 dsimp only at h1 h2 h3 hcs ht2
 obtain ⟨i1,i2⟩:=h1
 obtain ⟨f1,f2⟩:=h2
 obtain ⟨n1,n2⟩:=h3
 obtain ⟨c0,c1,c2,c3,c4,c5,c6,c7⟩:=ci8 sp sc sm tc tn th ta ti h0.cell
 have c8:=ci tx (h0.cell 8)
 have c9:=ce (sv) (h0.cell 9)
 have c10:=ce (.bool tfound) (h0.cell 10)
 have c11:=ce (.bool tdone) (h0.cell 11)
 have zf:=h0.free
 have w1:=wrp (ti + 1)
 have w2:=wrp (th + tn)
 go_enter Tryz.func133,Tryz.ntmps133
 go_upto_region 1 with fail
 have hB:=h0.set 7 (.int .i64 (ti + 1))
 generalize World.setCell _ ⟨q,7,.none⟩ (.int .i64 (ti + 1))=U at *
 clear c0 c1 c2 c3 c4 c5 c6 c7 c8 c9 c10 c11 h0 zf
 have z4:=ci tn (hB.cell 4)
 have z5:=ci th (hB.cell 5)
 have z7:=ci (ti + 1) (hB.cell 7)
 have lU:=hB.lt
 go_quiet (fail)
 have hC:=hB.drewN nq
 generalize U.drewN nq=T at *
 have k10:=ce (.bool tfound) (hC.cell 10)
 have k11:=ce (.bool tdone) (hC.cell 11)
 have zf:=hC.free
 rcases hcs with hcs | ⟨hne,hcs⟩
 ·replace ht2:=hd' (ht2.out.trans (if_pos hcs))
  have hb:(ti + 1==th + tn)=true:=by simpa using hcs
  clear hcs
  go_wp2_with fail
  go_returns
  exact ((hC.set 10 _).set 11 _).fin (by rw [ht2.out];rfl)
 ·replace ht2:=hd' (ht2.out.trans (if_neg hne))
  clear hne
  go_wp2_with fail
  go_returns
  exact hC.fin (by rw [ht2.out];rfl)
theorem zrz (q:Nat) (s:Sh) (t:Rn) (sv:Value) (w:World) (hq:zaa w q (za3 s t sv) 140) (h1:0<=t.at'/\t.at' < 80) (h2:0<=t.head/\t.head<=64) (h3:0<=t.pages/\t.pages<=8):
  Calls Tryz.prog 127 #[.pointer (some ⟨q,0,.none⟩)] w fun e w'=> Turned q w w' e (za3 s t.own sv) 140:=by
 have h0:=At1.start hq
 clear hq
 unfold Rn.own
 have hwr:=fun Y (hY:zaa Y q (za3 s { t with at':=t.at' + 1,next:=5,i:=t.head } sv) 140)=> zj5 q s { t with at':=t.at' + 1,next:=5,i:=t.head } sv Y hY (by dsimp only;omega) h2 h3
 have hcs:t.at' + 1=t.head + t.pages\/(¬ t.at' + 1=t.head + t.pages/\(t.at' + 1==t.head + t.pages)=false):=by
  by_cases h:t.at' + 1=t.head + t.pages
  ·exact .inl h
  ·exact .inr ⟨h,by simpa using h⟩
 obtain ⟨t2,ht2,ht2'⟩:∃ t2:Rn,Hid (t2=if t.at' + 1=t.head + t.pages then ({ t with at':=t.at' + 1,next:=5,i:=t.head }:Rn).written else { t with at':=t.at' + 1,next:=0 })/\t2=_:=⟨_,hd' rfl,rfl⟩
 rw [<- ht2']
 clear ht2'
 obtain ⟨sp,sc,sm⟩:=s
 obtain ⟨tc,tn,th,ta,ti,tx,tstrip,tfound,tdone⟩:=t
 dsimp only at h1 h2 h3 hcs ht2 hwr
 obtain ⟨i1,i2⟩:=h1
 obtain ⟨f1,f2⟩:=h2
 obtain ⟨n1,n2⟩:=h3
 replace hwr:=hd' hwr
 obtain ⟨c0,c1,c2,c3,c4,c5,c6,c7⟩:=ci8 sp sc sm tc tn th ta ti h0.cell
 have c8:=ci tx (h0.cell 8)
 have c9:=ce (sv) (h0.cell 9)
 have c10:=ce (.bool tfound) (h0.cell 10)
 have c11:=ce (.bool tdone) (h0.cell 11)
 have zf:=h0.free
 have w1:=wrp (ta + 1)
 have w2:=wrp (th + tn)
 go_enter Tryz.func127,Tryz.ntmps127
 go_upto_region 2 with fail
 have hB:=(h0.set 6 (.int .i64 (ta + 1))).set 8 (.int .i64 0)
 generalize World.setCell _ ⟨q,8,.none⟩ (.int .i64 0)=U at *
 clear c0 c1 c2 c3 c4 c5 c6 c7 c8 c9 c10 c11 h0 zf
 have z4:=ci tn (hB.cell 4)
 have z5:=ci th (hB.cell 5)
 have z6:=ci (ta + 1) (hB.cell 6)
 have lU:=hB.lt
 go_quiet (fail)
 have hC:=hB.drewN nq
 generalize U.drewN nq=T at *
 have k5:=ci th (hC.cell 5)
 have k7:=ci ti (hC.cell 7)
 have k8:=ci 0 (hC.cell 8)
 have zf:=hC.free
 rcases hcs with hcs | ⟨hne,hcs⟩
 ·replace ht2:=hd' (ht2.out.trans (if_pos hcs))
  have hb:(ta + 1==th + tn)=true:=by simpa using hcs
  clear hcs
  have hD:=(hC.set 8 (.int .i64 5)).set 7 (.int .i64 th)
  go_wp2_with (first | (go_at_call 133;(with_reducible refine (hwr.out _ (hD.row.cast rfl)).mono ?_);rintro r w1 hT;obtain rfl:=hT.ret) | fail)
  go_returns
  exact (hD.turned hT).fin (by rw [ht2.out])
 ·replace ht2:=hd' (ht2.out.trans (if_neg hne))
  clear hne
  go_wp2_with fail
  go_returns
  exact hC.fin (by rw [ht2.out];rfl)
theorem zon (q:Nat) (s:Sh) (t:Rn) (sv:Value) (w:World) (hq:zaa w q (za3 s t sv) 140) (h1:0<=t.at'/\t.at' < 80) (h2:0<=s.p/\s.p<=64) (h3:0<=t.pages/\t.pages<=8):
  Calls Tryz.prog 132 #[.pointer (some ⟨q,0,.none⟩)] w fun e w'=> Turned q w w' e (za3 s (t.gone s) sv) 140:=by
 have h0:=At1.start hq
 clear hq
 unfold Rn.gone
 obtain ⟨t2,ht2,ht2'⟩:∃ t2:Rn,Hid (t2=if t.head < t.i then t else { t with at':=t.at' + 1,head:=t.at' + 1,next:=0,done:=decide (s.p - t.pages < t.at' + 1) })/\t2=_:=⟨_,hd' rfl,rfl⟩
 rw [<- ht2']
 clear ht2'
 obtain ⟨sp,sc,sm⟩:=s
 obtain ⟨tc,tn,th,ta,ti,tx,tstrip,tfound,tdone⟩:=t
 dsimp only at h1 h2 h3 ht2
 obtain ⟨i1,i2⟩:=h1
 obtain ⟨f1,f2⟩:=h2
 obtain ⟨n1,n2⟩:=h3
 obtain ⟨c0,c1,c2,c3,c4,c5,c6,c7⟩:=ci8 sp sc sm tc tn th ta ti h0.cell
 have c8:=ci tx (h0.cell 8)
 have c9:=ce (sv) (h0.cell 9)
 have c10:=ce (.bool tfound) (h0.cell 10)
 have c11:=ce (.bool tdone) (h0.cell 11)
 have zf:=h0.free
 have lq:=h0.lt
 have w1:=wrp (ta + 1)
 have w2:=wrp (sp - tn)
 go_enter Tryz.func132,Tryz.ntmps132
 go_wp2_with fail
 go_quiet (fail)
 have hC:=h0.drewN nq
 clear c0 c1 c2 c3 c4 c5 c6 c7 c8 c9 c10 c11 h0 zf lq
 generalize w.drewN nq=T at *
 obtain ⟨k0,k1,k2,k3,k4,k5,k6,k7⟩:=ci8 sp sc sm tc tn th ta ti hC.cell
 have k8:=ci tx (hC.cell 8)
 have k9:=ce (sv) (hC.cell 9)
 have k10:=ce (.bool tfound) (hC.cell 10)
 have k11:=ce (.bool tdone) (hC.cell 11)
 have zf:=hC.free
 by_cases hlt:th < ti
 ·replace ht2:=hd' (ht2.out.trans (if_pos hlt))
  go_wp2_with fail
  go_returns
  exact hC.fin (by rw [ht2.out])
 ·replace ht2:=hd' (ht2.out.trans (if_neg hlt))
  have hlt2:decide (th < ti)=false:=decide_eq_false hlt
  go_upto_region 3 with fail
  have hD:=((hC.set 6 (.int .i64 (ta + 1))).set 5 (.int .i64 (ta + 1))).set 8 (.int .i64 0)
  generalize World.setCell _ ⟨q,8,.none⟩ (.int .i64 0)=U at *
  clear k0 k1 k2 k3 k4 k5 k6 k7 k8 k9 k10 k11 hC zf
  have z0:=ci sp (hD.cell 0)
  have z4:=ci tn (hD.cell 4)
  have z5:=ci (ta + 1) (hD.cell 5)
  have lU:=hD.lt
  refine zad 18 (by kernel_rfl) (by kernel_rfl) ?_
  dsimp only [List.take,List.drop]
  repeat (go_big_quiet_step (fail))
  refine wpQuiet_nil ?_
  rintro _ ⟨e',rfl⟩
  have hE:=hD.below e'.below
  generalize e'.w=V at *
  change wpList _ _ _ _ _ V
  have y11:=ce (.bool tdone) (hE.cell 11)
  have zf:=hE.free
  go_wp2_with fail
  go_returns
  exact (hE.set 11 _).fin (by rw [ht2.out];rfl)
theorem zkl (q:Nat) (s:Sh) (t:Rn) (sv:Value) (w:World) (hq:zaa w q (za3 s t sv) 140) (h1:0<=t.at'/\t.at' < 80) (h2:0<=s.p/\s.p<=64) (h3:0<=t.pages/\t.pages<=8):
  Calls Tryz.prog 128 #[.pointer (some ⟨q,0,.none⟩)] w fun e w'=> Turned q w w' e (za3 s (t.miss s) sv) 140:=by
 have h0:=At1.start hq
 clear hq
 unfold Rn.miss
 have hgo:=fun Y (hY:zaa Y q (za3 s { t with next:=4,i:=t.at' } sv) 140)=> zon q s { t with next:=4,i:=t.at' } sv Y hY h1 h2 h3
 generalize ({ t with next:=4,i:=t.at' }:Rn).gone s=t2 at *
 obtain ⟨sp,sc,sm⟩:=s
 obtain ⟨tc,tn,th,ta,ti,tx,tstrip,tfound,tdone⟩:=t
 dsimp only at hgo
 replace hgo:=hd' hgo
 clear h1 h2 h3
 obtain ⟨c0,c1,c2,c3,c4,c5,c6,c7⟩:=ci8 sp sc sm tc tn th ta ti h0.cell
 have c8:=ci tx (h0.cell 8)
 have c9:=ce (sv) (h0.cell 9)
 have c10:=ce (.bool tfound) (h0.cell 10)
 have c11:=ce (.bool tdone) (h0.cell 11)
 have zf:=h0.free
 have hB:=(h0.set 8 (.int .i64 4)).set 7 (.int .i64 ta)
 go_enter Tryz.func128,Tryz.ntmps128
 go_wp2_with (first | (go_at_call 132;(with_reducible refine (hgo.out _ (hB.row.cast rfl)).mono ?_);rintro r w1 hT;obtain rfl:=hT.ret) | fail)
 go_returns
 exact (hB.turned hT).fin rfl
theorem zrp (q p b:Nat) (s:Sh) (t:Rn) (sv:Value) (pg k a c:Int) (m:Mem) (w0 w:World) (h0:At3 q p b w0 w (za3 s t sv) 140 m) (hf:Fits s m) (hpg:0<=pg/\pg < s.p) (hs:m.st < 1000000000):
  Calls Tryz.prog 131 #[.pointer (some ⟨q,0,.none⟩),.pointer (some ⟨p,0,.none⟩),.int .i64 pg,.agg #[.int .i64 k,.int .i64 a,.int .i64 c]] w fun e w'=> e= .returned (.tuple #[])/\At3 q p b w0 w' (za3 s t sv) 140 (m.store t.c (s.c + pg) (zb8 k a c)):=by
 obtain ⟨hpx,hph⟩:=hf.page hpg
 have hcpp:=fun Y=> planPage_any s.p s.c s.m pg Y
 rw [hpx] at hcpp
 have hput:=fun Y=> zcd k a c Y
 have hst:=fun Y (hY:zaq Y p b m)=> zba p b m t.c (s.c + pg) (zb8 k a c) Y hY hph (zc0 _ _ _) hs
 generalize s.c + pg=pa at *
 generalize zb8 k a c=pv at *
 clear hpx hph hf hpg
 obtain ⟨sp,sc,sm⟩:=s
 obtain ⟨tc,tn,th,ta,ti,tx,tstrip,tfound,tdone⟩:=t
 dsimp only at hcpp hst ⊢
 replace hcpp:=hd' hcpp
 replace hput:=hd' hput
 replace hst:=hd' hst
 go_enter Tryz.func131,Tryz.ntmps131
 go_upto_region 1 with fail
 have hA:=h0.alloc (.cells #[.int .i64 k,.int .i64 a,.int .i64 c] 120)
 have hE:zaa (w.alloc (.cells #[.int .i64 k,.int .i64 a,.int .i64 c] 120)) w.heap.size #[.int .i64 k,.int .i64 a,.int .i64 c] 120:=heap_alloc_new _ _
 generalize w.alloc (.cells #[.int .i64 k,.int .i64 a,.int .i64 c] 120)=X at *
 have lX:=hA.lt
 generalize w.heap.size=E at *
 have lE:=hE.lt
 obtain ⟨g0,g1,g2⟩:=ci3 k a c hE.cell
 obtain ⟨z0,z1,z2,z3⟩:=ci4 sp sc sm tc hA.cell
 refine zad 13 (by kernel_rfl) (by kernel_rfl) ?_
 dsimp only [List.take,List.drop]
 repeat (go_big_quiet_step ((first | (go_at_call 59;exact zam (hcpp.out _)) | (go_at_call 119;exact zam (hput.out _)) | fail)))
 refine wpQuiet_nil ?_
 rintro _ ⟨e',rfl⟩
 have hZ:=hA.below e'.below
 generalize e'.w=Z at *
 change wpList _ _ _ _ _ Z
 go_wp2_with (first | (go_at_call 118;(with_reducible refine (hst.out _ hZ.wds).mono ?_);rintro r w2 ⟨rfl,hw2,ho2⟩) | fail)
 go_returns
 exact ⟨rfl,hZ.access hw2 ho2⟩
end Go.Proofs.YthgekdlegbmehaaGreat

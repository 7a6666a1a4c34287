/- Texts bound together: BindW DoneW. -/
import Derived.Test.YthgekdlegbmehaaGreatBq10

set_option linter.all false
set_option maxHeartbeats 2000000
set_option maxRecDepth 100000
namespace Go.Proofs.YthgekdlegbmehaaGreat

open Go.RowKit

attribute [local go_sem ↓] Go.wp_at_zero Go.wp_at_succ

theorem zyw (q p b:Nat) (s:Sh) (t:Bn) (m:Mem) (w:World) (hq:zaa w q (ze5 s t) 172) (hw:zaq w p b m) (hqp:q≠p) (hqb:q≠b) (hf:Fits s m) (ho:bnOk s t) (hs:m.st < 1000000000):
  Calls Tryz.prog 189 #[.pointer (some ⟨q,0,.none⟩),.pointer (some ⟨p,0,.none⟩)] w fun e w'=> Stepped q p b w w' e (ze5 s (ze6 s t m).1) 172 (ze6 s t m).2:=by
 have h0:=At3.start hq hw hqp hqb
 clear hq hw
 rcases Bool.eq_false_or_eq_true t.done with hd | hd
 ·have hr:ze6 s t m=(t,m):=by unfold ze6;rw [if_pos hd]
  rw [hr]
  clear hr
  have c8:w.cell? ⟨q,8,.none⟩=some (.bool true):=by rw [<- hd];exact h0.cell 8
  clear ho hd hf
  go_enter Tryz.func189,Tryz.ntmps189
  go_wp2_with fail
  go_returns
  exact h0.fin rfl rfl
 obtain ⟨hc,hpg,hk,hi,hbk⟩:=ho.cl hd
 have hbd:=hf.bd
 have hsr:=zdg hk
 obtain ⟨hpx,hph⟩:=hf.page hpg
 have hcpp:=fun Y=> planPage_any s.p s.c s.m t.page Y
 rw [hpx] at hcpp
 have hcph:=fun Y=> zcd 2 t.k t.c Y
 have hcpo:=fun Y=> zbl 1 t.k Y
 have hcpw:=fun Y=> zbl 2 t.c Y
 have hcss:=fun Y=> slots_any t.k Y
 have hcsl:=fun Y=> zbm s.p s.c s.m t.page t.i Y
 obtain ⟨r,hr⟩:∃ r,r=ze6 s t m:=⟨_,rfl⟩
 rw [<- hr]
 unfold ze6 at hr
 rw [if_neg (by rw [hd];decide)] at hr
 have hop:Hid (zc8 t.k=zc3 1 t.k):=hd' rfl
 have hwy:Hid (wayW t.c=zc3 2 t.c):=hd' rfl
 rw [<- hop.out] at hcpo
 rw [<- hwy.out] at hcpw
 have hhf:0<=zb8 2 t.k t.c/\zb8 2 t.k t.c < 18446744073709551616:=zc0 _ _ _
 have hof:0<=zc8 t.k/\zc8 t.k < 18446744073709551616:=zch _ _
 have hwf:0<=wayW t.c/\wayW t.c < 18446744073709551616:=zch _ _
 clear hop hwy
 rw [hpx] at hr
 have w1:=wrp (t.i - 1)
 have w2:=wrp (t.i + 1)
 have w3:=wrp (zah t.k - 1)
 rcases Bool.eq_false_or_eq_true t.bound with hb | hb
 ·rw [if_pos hb] at hr
  have hi1:=hbk hb
  obtain ⟨hsx,hsh⟩:=hf.slot hpg (i:=t.i) (by omega)
  rw [hsx] at hcsl hr
  have hst:=fun Y (hY:zaq Y p b m)=> zba p b m t.c (s.c + s.p + t.page * 16 + t.i) (zc8 t.k) Y hY hsh hof hs
  generalize s.c + s.p + t.page * 16 + t.i=sa at hcsl hst hr
  generalize zc8 t.k=ow at *
  generalize zah t.k=sv at *
  clear hcpp hcph hcpw hsx hsh hph hpx ho hf hc hpg hbk hhf hof hwf w2 w3 hbd hsr hk hi hi1
  obtain ⟨t2,ht2,ht2'⟩:∃ t2:Bn,Hid (t2= { t with i:=t.i - 1,done:=decide (t.i - 1=0) })/\t2=_:=⟨_,hd' rfl,rfl⟩
  rw [<- ht2'] at hr
  clear ht2'
  subst hr
  obtain ⟨tc,tg,tk,ti,tbound,tdone⟩:=t
  obtain ⟨sp,sc,sm⟩:=s
  dsimp only at hd hb hst hcsl hcpo hcss ht2 w1 ⊢
  subst hd hb
  replace hst:=hd' hst
  replace hcsl:=hd' hcsl
  replace hcpo:=hd' hcpo
  replace hcss:=hd' hcss
  have lq:=h0.lt
  obtain ⟨c0,c1,c2,c3,c4,c5,c6⟩:=ci7 sp sc sm tc tg tk ti h0.cell
  have c7:=ce (.bool true) (h0.cell 7)
  have c8:=ce (.bool false) (h0.cell 8)
  go_enter Tryz.func189,Tryz.ntmps189
  go_upto_region 2 with (first | (go_at_call 58;(with_reducible refine (hcss.out _).mono ?_);rintro r w1 ⟨rfl,rfl⟩) | fail)
  refine zaj (by kernel_rfl) (by kernel_rfl) ?_
  repeat (go_big_quiet_step ((first | (go_at_call 120;exact zam (hcsl.out _)) | fail)))
  refine wpQuiet_nil ?_
  rintro _ ⟨e',rfl⟩
  have hX:=h0.below e'.below
  generalize e'.w=X at *
  clear c0 c1 c2 c3 c4 c5 c6 c7 c8 h0 lq
  have k3:=ci tc (hX.cell 3)
  have k4:=ci tg (hX.cell 4)
  have k5:=ci tk (hX.cell 5)
  have k6:=ci ti (hX.cell 6)
  have k7:=ce (.bool true) (hX.cell 7)
  go_upto_region 6 with fail
  have lX:=hX.lt
  refine zad 12 (by kernel_rfl) (by kernel_rfl) ?_
  dsimp only [List.take,List.drop]
  repeat (go_big_quiet_step ((first | (go_at_call 121;exact zam (hcpo.out _)) | fail)))
  refine wpQuiet_nil ?_
  rintro _ ⟨e',rfl⟩
  have hZ:=hX.below e'.below
  generalize e'.w=Z at *
  change wpList _ _ _ _ _ Z
  clear k3 k4 k5 k6 k7 hX lX
  go_wp2_with (first | (go_at_call 118;(with_reducible refine (hst.out _ hZ.wds).mono ?_);rintro r w2 ⟨rfl,hw2,ho2⟩;have hA:=hZ.access hw2 ho2;have y6:=ci ti (hA.cell 6);have y8:=ce (.bool false) (hA.cell 8);have zf:=hA.free) | fail)
  go_returns
  exact ((hA.set 6 _).set 8 _).fin (by rw [ht2.out];rfl) rfl
 rw [if_neg (by rw [hb];decide)] at hr
 rcases (by omega:t.i=16\/(¬ t.i=16/\t.i < zah t.k)\/(¬ t.i=16/\¬ t.i < zah t.k)) with hi6 | ⟨hi6,hlt⟩ | ⟨hi6,hlt⟩
 ·rw [if_pos hi6] at hr
  have hst:=fun Y (hY:zaq Y p b m)=> zba p b m t.c (s.c + t.page) (zb8 2 t.k t.c) Y hY hph hhf hs
  generalize s.c + t.page=pa at hcpp hst hr
  generalize zb8 2 t.k t.c=pw at *
  generalize zbk s.p s.c s.m t.page t.i=sa at *
  generalize zah t.k=sv at *
  clear hcpo hcpw hph hpx ho hf hc hpg hbk hhf hof hwf w1 w2 hbd hsr hk hi
  obtain ⟨t2,ht2,ht2'⟩:∃ t2:Bn,Hid (t2= { t with bound:=true,i:=sv - 1 })/\t2=_:=⟨_,hd' rfl,rfl⟩
  rw [<- ht2'] at hr
  clear ht2'
  subst hr
  obtain ⟨tc,tg,tk,ti,tbound,tdone⟩:=t
  obtain ⟨sp,sc,sm⟩:=s
  dsimp only at hd hb hst hcsl hcpp hcph hcss ht2 w3 hi6 ⊢
  subst hd hb hi6
  replace hst:=hd' hst
  replace hcsl:=hd' hcsl
  replace hcpp:=hd' hcpp
  replace hcph:=hd' hcph
  replace hcss:=hd' hcss
  have lq:=h0.lt
  obtain ⟨c0,c1,c2,c3,c4,c5,c6⟩:=ci7 sp sc sm tc tg tk 16 h0.cell
  have c7:=ce (.bool false) (h0.cell 7)
  have c8:=ce (.bool false) (h0.cell 8)
  go_enter Tryz.func189,Tryz.ntmps189
  go_upto_region 2 with (first | (go_at_call 58;(with_reducible refine (hcss.out _).mono ?_);rintro r w1 ⟨rfl,rfl⟩) | fail)
  refine zaj (by kernel_rfl) (by kernel_rfl) ?_
  repeat (go_big_quiet_step ((first | (go_at_call 120;exact zam (hcsl.out _)) | fail)))
  refine wpQuiet_nil ?_
  rintro _ ⟨e',rfl⟩
  have hX:=h0.below e'.below
  generalize e'.w=X at *
  clear c0 c1 c2 c3 c4 c5 c6 c7 c8 h0 lq
  obtain ⟨k0,k1,k2,k3,k4,k5,k6⟩:=ci7 sp sc sm tc tg tk 16 hX.cell
  have k7:=ce (.bool false) (hX.cell 7)
  go_upto_region 10 with fail
  have lX:=hX.lt
  refine zad 24 (by kernel_rfl) (by kernel_rfl) ?_
  dsimp only [List.take,List.drop]
  repeat (go_big_quiet_step ((first | (go_at_call 59;exact zam (hcpp.out _)) | (go_at_call 119;exact zam (hcph.out _)) | fail)))
  refine wpQuiet_nil ?_
  rintro _ ⟨e',rfl⟩
  have hZ:=hX.below e'.below
  generalize e'.w=Z at *
  change wpList _ _ _ _ _ Z
  clear k0 k1 k2 k3 k4 k5 k6 k7 hX lX
  go_wp2_with (first | (go_at_call 118;(with_reducible refine (hst.out _ hZ.wds).mono ?_);rintro r w2 ⟨rfl,hw2,ho2⟩;have hA:=hZ.access hw2 ho2;have y6:=ci 16 (hA.cell 6);have y7:=ce (.bool false) (hA.cell 7);have zf:=hA.free) | fail)
  go_returns
  exact ((hA.set 7 _).set 6 _).fin (by rw [ht2.out];rfl) rfl
 ·rw [if_neg hi6,if_pos hlt] at hr
  obtain ⟨hsx,hsh⟩:=hf.slot hpg (i:=t.i) (by omega)
  rw [hsx] at hcsl hr
  have hst:=fun Y (hY:zaq Y p b m)=> zba p b m t.c (s.c + s.p + t.page * 16 + t.i) (wayW t.c) Y hY hsh hwf hs
  have hi7:(t.i==16)=false:=by simpa using hi6
  generalize s.c + s.p + t.page * 16 + t.i=sa at hcsl hst hr
  generalize wayW t.c=ww at *
  generalize zah t.k=sv at *
  clear hcpp hcph hcpo hsx hsh hph hpx ho hf hc hpg hbk hhf hof hwf w1 w3 hbd hsr hk hi hi6
  obtain ⟨t2,ht2,ht2'⟩:∃ t2:Bn,Hid (t2= { t with i:=t.i + 1 })/\t2=_:=⟨_,hd' rfl,rfl⟩
  rw [<- ht2'] at hr
  clear ht2'
  subst hr
  obtain ⟨tc,tg,tk,ti,tbound,tdone⟩:=t
  obtain ⟨sp,sc,sm⟩:=s
  dsimp only at hd hb hst hcsl hcpw hcss ht2 w2 hi7 hlt ⊢
  subst hd hb
  replace hst:=hd' hst
  replace hcsl:=hd' hcsl
  replace hcpw:=hd' hcpw
  replace hcss:=hd' hcss
  have lq:=h0.lt
  obtain ⟨c0,c1,c2,c3,c4,c5,c6⟩:=ci7 sp sc sm tc tg tk ti h0.cell
  have c7:=ce (.bool false) (h0.cell 7)
  have c8:=ce (.bool false) (h0.cell 8)
  go_enter Tryz.func189,Tryz.ntmps189
  go_upto_region 2 with (first | (go_at_call 58;(with_reducible refine (hcss.out _).mono ?_);rintro r w1 ⟨rfl,rfl⟩) | fail)
  refine zaj (by kernel_rfl) (by kernel_rfl) ?_
  repeat (go_big_quiet_step ((first | (go_at_call 120;exact zam (hcsl.out _)) | fail)))
  refine wpQuiet_nil ?_
  rintro _ ⟨e',rfl⟩
  have hX:=h0.below e'.below
  generalize e'.w=X at *
  clear c0 c1 c2 c3 c4 c5 c6 c7 c8 h0 lq
  have k3:=ci tc (hX.cell 3)
  have k4:=ci tg (hX.cell 4)
  have k5:=ci tk (hX.cell 5)
  have k6:=ci ti (hX.cell 6)
  have k7:=ce (.bool false) (hX.cell 7)
  go_upto_region 13 with fail
  have lX:=hX.lt
  refine zad 12 (by kernel_rfl) (by kernel_rfl) ?_
  dsimp only [List.take,List.drop]
  repeat (go_big_quiet_step ((first | (go_at_call 121;exact zam (hcpw.out _)) | fail)))
  refine wpQuiet_nil ?_
  rintro _ ⟨e',rfl⟩
  have hZ:=hX.below e'.below
  generalize e'.w=Z at *
  change wpList _ _ _ _ _ Z
  clear k3 k4 k5 k6 k7 hX lX
  go_wp2_with (first | (go_at_call 118;(with_reducible refine (hst.out _ hZ.wds).mono ?_);rintro r w2 ⟨rfl,hw2,ho2⟩;have hA:=hZ.access hw2 ho2;have y6:=ci ti (hA.cell 6);have zf:=hA.free) | fail)
  go_returns
  exact (hA.set 6 _).fin (by rw [ht2.out];rfl) rfl
 ·rw [if_neg hi6,if_neg hlt] at hr
  obtain ⟨hsx,hsh⟩:=hf.slot hpg (i:=t.i) (by omega)
  rw [hsx] at hcsl hr
  have hst:=fun Y (hY:zaq Y p b m)=> zba p b m t.c (s.c + s.p + t.page * 16 + t.i) 0 Y hY hsh (by decide) hs
  have hi7:(t.i==16)=false:=by simpa using hi6
  generalize s.c + s.p + t.page * 16 + t.i=sa at hcsl hst hr
  generalize zah t.k=sv at *
  clear hcpp hcph hcpo hcpw hsx hsh hph hpx ho hf hc hpg hbk hhf hof hwf w1 w3 hbd hsr hk hi hi6
  obtain ⟨t2,ht2,ht2'⟩:∃ t2:Bn,Hid (t2= { t with i:=t.i + 1 })/\t2=_:=⟨_,hd' rfl,rfl⟩
  rw [<- ht2'] at hr
  clear ht2'
  subst hr
  obtain ⟨tc,tg,tk,ti,tbound,tdone⟩:=t
  obtain ⟨sp,sc,sm⟩:=s
  dsimp only at hd hb hst hcsl hcss ht2 w2 hi7 hlt ⊢
  subst hd hb
  replace hst:=hd' hst
  replace hcsl:=hd' hcsl
  replace hcss:=hd' hcss
  have lq:=h0.lt
  obtain ⟨c0,c1,c2,c3,c4,c5,c6⟩:=ci7 sp sc sm tc tg tk ti h0.cell
  have c7:=ce (.bool false) (h0.cell 7)
  have c8:=ce (.bool false) (h0.cell 8)
  go_enter Tryz.func189,Tryz.ntmps189
  go_upto_region 2 with (first | (go_at_call 58;(with_reducible refine (hcss.out _).mono ?_);rintro r w1 ⟨rfl,rfl⟩) | fail)
  refine zaj (by kernel_rfl) (by kernel_rfl) ?_
  repeat (go_big_quiet_step ((first | (go_at_call 120;exact zam (hcsl.out _)) | fail)))
  refine wpQuiet_nil ?_
  rintro _ ⟨e',rfl⟩
  have hX:=h0.below e'.below
  generalize e'.w=X at *
  clear c0 c1 c2 c3 c4 c5 c6 c7 c8 h0 lq
  have k3:=ci tc (hX.cell 3)
  have k4:=ci tg (hX.cell 4)
  have k5:=ci tk (hX.cell 5)
  have k6:=ci ti (hX.cell 6)
  have k7:=ce (.bool false) (hX.cell 7)
  go_wp2_with (first | (go_at_call 118;(with_reducible refine (hst.out _ hX.wds).mono ?_);rintro r w2 ⟨rfl,hw2,ho2⟩;have hA:=hX.access hw2 ho2;have y6:=ci ti (hA.cell 6);have zf:=hA.free) | fail)
  go_returns
  exact (hA.set 6 _).fin (by rw [ht2.out];rfl) rfl
theorem zxx (q:Nat) (cs:Array Value) (v:Bool) (w:World) (h:zaa w q cs 149) (hv:cs[11]?=some (.bool v)):Calls Tryz.prog 179 #[.pointer (some ⟨q,0,.none⟩)] w fun e w'=> e= .returned (.bool v)/\w'=w:=by
 have c:=(h.cell 11).trans hv
 clear h hv
 go_enter Tryz.func179,Tryz.ntmps179
 go_wp2_with fail
 go_returns
 exact ⟨rfl,rfl⟩
theorem zxw (q:Nat) (cs:Array Value) (v:Bool) (w:World) (h:zaa w q cs 208) (hv:cs[10]?=some (.bool v)):Calls Tryz.prog 147 #[.pointer (some ⟨q,0,.none⟩)] w fun e w'=> e= .returned (.bool v)/\w'=w:=by
 have c:=(h.cell 10).trans hv
 clear h hv
 go_enter Tryz.func147,Tryz.ntmps147
 go_wp2_with fail
 go_returns
 exact ⟨rfl,rfl⟩
theorem z4h (q:Nat) (cs:Array Value) (v:Bool) (w:World) (h:zaa w q cs 208) (hv:cs[9]?=some (.bool v)):Calls Tryz.prog 146 #[.pointer (some ⟨q,0,.none⟩)] w fun e w'=> e= .returned (.bool v)/\w'=w:=by
 have c:=(h.cell 9).trans hv
 clear h hv
 go_enter Tryz.func146,Tryz.ntmps146
 go_wp2_with fail
 go_returns
 exact ⟨rfl,rfl⟩
theorem zyy (q:Nat) (cs:Array Value) (v:Bool) (w:World) (h:zaa w q cs 165) (hv:cs[10]?=some (.bool v)):Calls Tryz.prog 182 #[.pointer (some ⟨q,0,.none⟩)] w fun e w'=> e= .returned (.bool v)/\w'=w:=by
 have c:=(h.cell 10).trans hv
 clear h hv
 go_enter Tryz.func182,Tryz.ntmps182
 go_wp2_with fail
 go_returns
 exact ⟨rfl,rfl⟩
theorem zzg (q:Nat) (cs:Array Value) (v:Bool) (w:World) (h:zaa w q cs 167) (hv:cs[8]?=some (.bool v)):Calls Tryz.prog 186 #[.pointer (some ⟨q,0,.none⟩)] w fun e w'=> e= .returned (.bool v)/\w'=w:=by
 have c:=(h.cell 8).trans hv
 clear h hv
 go_enter Tryz.func186,Tryz.ntmps186
 go_wp2_with fail
 go_returns
 exact ⟨rfl,rfl⟩
theorem zog (q:Nat) (cs:Array Value) (v:Bool) (w:World) (h:zaa w q cs 170) (hv:cs[9]?=some (.bool v)):Calls Tryz.prog 130 #[.pointer (some ⟨q,0,.none⟩)] w fun e w'=> e= .returned (.bool v)/\w'=w:=by
 have c:=(h.cell 9).trans hv
 clear h hv
 go_enter Tryz.func130,Tryz.ntmps130
 go_wp2_with fail
 go_returns
 exact ⟨rfl,rfl⟩
theorem zpa (q:Nat) (cs:Array Value) (v:Bool) (w:World) (h:zaa w q cs 170) (hv:cs[8]?=some (.bool v)):Calls Tryz.prog 86 #[.pointer (some ⟨q,0,.none⟩)] w fun e w'=> e= .returned (.bool v)/\w'=w:=by
 have c:=(h.cell 8).trans hv
 clear h hv
 go_enter Tryz.func86,Tryz.ntmps86
 go_wp2_with fail
 go_returns
 exact ⟨rfl,rfl⟩
theorem zyi (q:Nat) (cs:Array Value) (v:Bool) (w:World) (h:zaa w q cs 172) (hv:cs[8]?=some (.bool v)):Calls Tryz.prog 188 #[.pointer (some ⟨q,0,.none⟩)] w fun e w'=> e= .returned (.bool v)/\w'=w:=by
 have c:=(h.cell 8).trans hv
 clear h hv
 go_enter Tryz.func188,Tryz.ntmps188
 go_wp2_with fail
 go_returns
 exact ⟨rfl,rfl⟩
def zgd (f:Bool) (a b:Int):Value:= .tuple #[.int .i64 (if f=true then a else 0),.int .i64 (if f=true then b else 0),.bool f]
theorem zu4 (q:Nat) (s:Sh) (t:Tk) (w:World) (hq:zaa w q (zd1 s t) 149):
  Calls Tryz.prog 79 #[.pointer (some ⟨q,0,.none⟩)] w fun e w'=> e= .returned (zgd t.found t.ep t.es)/\Below w.heap.size w w':=by
 obtain ⟨tc,tk,ti,tep,tes,tek,thit,tfound,tdone⟩:=t
 obtain ⟨sp,sc,sm⟩:=s
 have lq:=hq.lt
 have c6:=ci tep (hq.cell 6)
 have c7:=ci tes (hq.cell 7)
 have c10:=ce (.bool tfound) (hq.cell 10)
 clear hq
 unfold zgd
 dsimp only
 cases tfound
 ·go_enter Tryz.func79,Tryz.ntmps79
  go_wp2_with fail
  go_returns
  exact ⟨rfl,Below.refl _ _⟩
 ·go_enter Tryz.func79,Tryz.ntmps79
  go_wp2_with fail
  go_quiet (fail)
  have hb:=below_drewN (Below.refl w.heap.size w) nq
  go_wp2_with fail
  go_returns
  exact ⟨rfl,hb⟩
theorem zum (q:Nat) (s:Sh) (t:Sc) (w:World) (hq:zaa w q (zbt s t) 165) (hp:1<=s.p/\s.p<=64) (h:t.found=true->(0<=t.first/\t.first < 64)/\(0<=t.many/\t.many<=64)):
  Calls Tryz.prog 82 #[.pointer (some ⟨q,0,.none⟩)] w fun e w'=> e= .returned (zgd t.found (t.page s) t.i)/\Below w.heap.size w w':=by
 have hcpg:=fun Y (hY:zaa Y q (zbt s t) 165) (hf:t.found=true)=> zoi q s t Y hY hp (h hf).1 (h hf).2
 generalize t.page s=pg at *
 obtain ⟨tc,tk,tf,tm,ti,tn,tfound,tdone⟩:=t
 obtain ⟨sp,sc,sm⟩:=s
 have lq:=hq.lt
 have c7:=ci ti (hq.cell 7)
 have c9:=ce (.bool tfound) (hq.cell 9)
 unfold zgd
 dsimp only at hcpg h ⊢
 clear h
 cases tfound
 ·clear hcpg
  go_enter Tryz.func82,Tryz.ntmps82
  go_wp2_with fail
  go_returns
  exact ⟨rfl,Below.refl _ _⟩
 ·replace hcpg:=hd' (fun Y hY=> hcpg Y hY rfl)
  go_enter Tryz.func82,Tryz.ntmps82
  go_upto_region 3 with fail
  refine zaj (by kernel_rfl) (by kernel_rfl) ?_
  repeat (go_big_quiet_step ((first | (go_at_call 89;exact zam (hcpg.out _ (hq.below (Ext.below _)))) | fail)))
  refine wpQuiet_nil ?_
  rintro _ ⟨e',rfl⟩
  have hb:=e'.below
  generalize e'.w=X at *
  go_wp2_with fail
  go_returns
  exact ⟨rfl,hb⟩
theorem zu1 (q:Nat) (s:Sh) (t:Pc) (w:World) (hq:zaa w q (zfn s t) 167) (hp:1<=s.p/\s.p<=64) (h:t.found=true->(0<=t.first/\t.first < 64)/\(0<=t.many/\t.many<=64)):
  Calls Tryz.prog 84 #[.pointer (some ⟨q,0,.none⟩)] w fun e w'=> e= .returned (.tuple #[.int .i64 (if t.found=true then t.page s else 0),.bool t.found])/\Below w.heap.size w w':=by
 have hcpg:=fun Y (hY:zaa Y q (zfn s t) 167) (hf:t.found=true)=> zoo q s t Y hY hp (h hf).1 (h hf).2
 generalize t.page s=pg at *
 obtain ⟨tc,tf,tm,tempty,tfound,tdone⟩:=t
 obtain ⟨sp,sc,sm⟩:=s
 have lq:=hq.lt
 have c7:=ce (.bool tfound) (hq.cell 7)
 dsimp only at hcpg h ⊢
 clear h
 cases tfound
 ·clear hcpg
  go_enter Tryz.func84,Tryz.ntmps84
  go_wp2_with fail
  go_returns
  exact ⟨rfl,Below.refl _ _⟩
 ·replace hcpg:=hd' (hcpg w hq rfl)
  go_enter Tryz.func84,Tryz.ntmps84
  go_wp2_with (first | (go_at_call 90;(with_reducible refine hcpg.out.mono ?_);rintro r w1 ⟨rfl,hb⟩) | fail)
  go_returns
  exact ⟨rfl,hb⟩
end Go.Proofs.YthgekdlegbmehaaGreat

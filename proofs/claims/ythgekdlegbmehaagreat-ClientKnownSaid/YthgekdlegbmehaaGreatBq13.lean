/- Texts bound together: SeekS SeekT. -/
import Derived.Test.YthgekdlegbmehaaGreatBq12

set_option linter.all false
set_option maxHeartbeats 2000000
set_option maxRecDepth 100000
namespace Go.Proofs.YthgekdlegbmehaaGreat

section

open Go.RowKit

attribute [local go_sem ↓] Go.wp_at_zero Go.wp_at_succ
noncomputable def rkW (q:Nat) (w:World):Nat:=match w.cell? ⟨q,11,.none⟩ with
 | some (.bool true)=> 0
 | _=> match w.cell? ⟨q,6,.none⟩ with
  | some (.iface T _)=> if T=136 then 4 else if T=158 then 3 else if T=160 then 2 else if T=138 then 2 else 1
  | _=> 0
theorem z8s {w:World} {q q2:Nat} {s:Sh} {t:Sk} (h:SkAt w q q2 s t):rkW q w=zdj t:=by
 have c11:=ce (.bool t.done) (h.row.cell 11)
 have c6:=ce (nowV t.now q2) (h.row.cell 6)
 unfold rkW zdj
 rw [c11,c6]
 rcases Bool.eq_false_or_eq_true t.done with hd | hd <;> rw [hd]
 ·rfl
 ·simp only [Bool.false_eq_true,if_false]
  rcases t.now with _ | x
  ·rfl
  ·cases x <;> rfl
theorem zlm (W:World):(binOp .neq 133 .nilIface .nilIface).run Tryz.prog W= .ok (.bool false) W:=by kernel_rfl
theorem zlk (T:TypeId) (v:Value) (W:World):(binOp .neq 133 (.iface T v) .nilIface).run Tryz.prog W= .ok (.bool true) W:=by kernel_rfl
theorem zrv (W:World):(eqGuard .neq 133 (.tmp 11) (.const .nilIface) .nilIface .nilIface).run Tryz.prog W= .ok () W:=by kernel_rfl
theorem zsx (T:TypeId) (v:Value) (W:World):(eqGuard .neq 133 (.tmp 11) (.const .nilIface) (.iface T v) .nilIface).run Tryz.prog W= .ok () W:=by kernel_rfl
attribute [local go_sem ↓] zlm zlk zrv zsx

theorem zx4 (q2:Nat) (s:Sh) (x:Mc) (w:World) (h:zaa w q2 (zku s x) (mcT x)) (F:FuncId)
  (hF:F=match x with | .tk _=> 179 | .sc _=> 182 | .pc _=> 186 | .sp _=> 130 | .bn _=> 188):
  Calls Tryz.prog F #[.pointer (some ⟨q2,0,.none⟩)] w fun e w'=> e= .returned (.bool x.done)/\w'=w:=by
 subst hF
 cases x with
 | tk x=> exact zxx q2 _ _ w h rfl
 | sc x=> exact zyy q2 _ _ w h rfl
 | pc x=> exact zzg q2 _ _ w h rfl
 | sp x=> exact zog q2 _ _ w h rfl
 | bn x=> exact zyi q2 _ _ w h rfl
theorem zli (q q2:Nat) (s:Sh) (t:Sk) (w:World) (h:SkAt w q q2 s t) (hp:1<=s.p/\s.p<=64) (ho:skOk s t):
  Calls Tryz.prog 61 #[.pointer (some ⟨q,0,.none⟩)] w fun e w'=> zbo q q2 w w' e s (za5 s 5 t):=by
 obtain ⟨tF,htF,htF'⟩:=hidv (za5 s 5 t)
 rw [<- htF']
 clear htF'
 have hlq:q < w.heap.size:=h.row.lt
 go_enter Tryz.func61,Tryz.ntmps61
 go_wp2_with fail
 go_loopw [] (fun wr=> ∃ tr q3,SkAt wr q q3 s tr/\skOk s tr/\Hid (tF=za5 s 5 tr)/\(q3=q2\/w.heap.size<=q3)/\Only (fun k=> k=q) w wr) (fun wr=> rkW q wr)
 case atStart=> exact ⟨t,q2,h,ho,htF,.inl rfl,Only.refl _ _⟩
 case round=>
  obtain ⟨tr,q3,hk,hok,hF,hq3,hO⟩:=hrel
  obtain ⟨Y,rfl⟩:∃ V:World,V=wr:=⟨_,rfl⟩
  have hlY:q < Y.heap.size:=hk.row.lt
  have hrk:=hd' (z8s hk)
  have c11:=ce (.bool tr.done) (hk.row.cell 11)
  have c6:=ce (nowV tr.now q3) (hk.row.cell 6)
  have hstop:Hid ((tr.done=true\/tr.now=none\/∃ x,tr.now=some x/\x.done=false)->zbo q q2 w Y (.returned (.tuple #[])) s tF):=hd' fun hh=> by
   have e:=hF.out.trans (zgs hh 5)
   exact ⟨rfl,⟨q3,by rw [e];exact hk,hq3⟩,hO⟩
  rcases Bool.eq_false_or_eq_true tr.done with hd | hd
  ·rw [hd] at c11
   replace hstop:=hd' (hstop.out (.inl hd))
   clear hd h ho hok hk hO hp hF htF hq3 hrk
   go_wp2_with fail
   go_returns
   exact hstop.out
  rw [hd] at c11
  rcases hnw:tr.now with _ | x
  ·rw [hnw] at c6
   replace hstop:=hd' (hstop.out (.inr (.inl hnw)))
   replace c6:Y.cell? ⟨q,6,.none⟩=some .nilIface:=c6
   clear hd h ho hok hk hO hp hF htF hq3 hrk hnw
   go_wp2_with fail
   go_returns
   exact hstop.out
  rw [hnw] at c6
  obtain ⟨hin,hne⟩:=hk.inn x hnw
  have hdn:=fun F hF=> zx4 q3 s x Y hin F hF
  rcases Bool.eq_false_or_eq_true x.done with hxd | hxd
  ·rw [hxd] at hdn
   have haf:=zvb q q3 s tr x Y hk hnw hp hok hd
   have hgo:=hF.out.trans (zm5 hd hnw hxd)
   have hok2:=zid hok hd hnw hxd hp.1
   have hrk2:=ze1 (s:=s) hd hnw
   have hback:Hid (∀ Z e,zbo q q3 Y Z e s (tr.after s x)->(∃ tr q3,SkAt Z q q3 s tr/\skOk s tr/\Hid (tF=za5 s 5 tr)/\(q3=q2\/w.heap.size<=q3)/\Only (fun k=> k=q) w Z)/\rkW q Z < rkW q Y):=hd' fun Z e hT=> by
    obtain ⟨q4,h4,h5⟩:=hT.at'
    refine ⟨⟨_,q4,h4,hok2,hd' hgo,?_,hO.trans hT.only (fun _ _ e=> e)⟩,?_⟩
    ·rcases h5 with h5 | h5
     ·rcases hq3 with h6 | h6
      ·exact .inl (h5.trans h6)
      ·exact .inr (h5 ▸ h6)
     ·exact .inr (Nat.le_trans hO.size h5)
    ·rw [z8s h4,hrk.out];exact hrk2
   clear hd h ho hok hk hO hp hF htF hq3 hrk hnw hstop hxd hok2 hrk2 hgo
   generalize tr.after s x=t3 at *
   replace haf:=hd' haf
   cases x with
   | tk x=>
    replace c6:Y.cell? ⟨q,6,.none⟩=some (.iface 136 (.pointer (some ⟨q3,0,.none⟩))):=c6
    replace hdn:=hd' (hdn _ rfl)
    go_wp2_with (first
     | (go_at_call 179;(with_reducible refine hdn.out.mono ?_);rintro r w1 ⟨rfl,hb1⟩;obtain rfl:=hb1.symm)
     | (go_at_call 73;(with_reducible refine haf.out.mono ?_);rintro r w2 hT;obtain rfl:=hT.ret)
     | fail)
    exact hback.out _ _ hT
   | sc x=>
    replace c6:Y.cell? ⟨q,6,.none⟩=some (.iface 158 (.pointer (some ⟨q3,0,.none⟩))):=c6
    replace hdn:=hd' (hdn _ rfl)
    go_wp2_with (first
     | (go_at_call 182;(with_reducible refine hdn.out.mono ?_);rintro r w1 ⟨rfl,hb1⟩;obtain rfl:=hb1.symm)
     | (go_at_call 73;(with_reducible refine haf.out.mono ?_);rintro r w2 hT;obtain rfl:=hT.ret)
     | fail)
    exact hback.out _ _ hT
   | pc x=>
    replace c6:Y.cell? ⟨q,6,.none⟩=some (.iface 160 (.pointer (some ⟨q3,0,.none⟩))):=c6
    replace hdn:=hd' (hdn _ rfl)
    go_wp2_with (first
     | (go_at_call 186;(with_reducible refine hdn.out.mono ?_);rintro r w1 ⟨rfl,hb1⟩;obtain rfl:=hb1.symm)
     | (go_at_call 73;(with_reducible refine haf.out.mono ?_);rintro r w2 hT;obtain rfl:=hT.ret)
     | fail)
    exact hback.out _ _ hT
   | sp x=>
    replace c6:Y.cell? ⟨q,6,.none⟩=some (.iface 138 (.pointer (some ⟨q3,0,.none⟩))):=c6
    replace hdn:=hd' (hdn _ rfl)
    go_wp2_with (first
     | (go_at_call 130;(with_reducible refine hdn.out.mono ?_);rintro r w1 ⟨rfl,hb1⟩;obtain rfl:=hb1.symm)
     | (go_at_call 73;(with_reducible refine haf.out.mono ?_);rintro r w2 hT;obtain rfl:=hT.ret)
     | fail)
    exact hback.out _ _ hT
   | bn x=>
    replace c6:Y.cell? ⟨q,6,.none⟩=some (.iface 163 (.pointer (some ⟨q3,0,.none⟩))):=c6
    replace hdn:=hd' (hdn _ rfl)
    go_wp2_with (first
     | (go_at_call 188;(with_reducible refine hdn.out.mono ?_);rintro r w1 ⟨rfl,hb1⟩;obtain rfl:=hb1.symm)
     | (go_at_call 73;(with_reducible refine haf.out.mono ?_);rintro r w2 hT;obtain rfl:=hT.ret)
     | fail)
    exact hback.out _ _ hT
  ·rw [hxd] at hdn
   replace hstop:=hd' (hstop.out (.inr (.inr ⟨x,hnw,hxd⟩)))
   clear hd h ho hok hk hO hp hF htF hq3 hrk hnw hxd
   cases x with
   | tk x=>
    replace c6:Y.cell? ⟨q,6,.none⟩=some (.iface 136 (.pointer (some ⟨q3,0,.none⟩))):=c6
    replace hdn:=hd' (hdn _ rfl)
    go_wp2_with (first
     | (go_at_call 179;(with_reducible refine hdn.out.mono ?_);rintro r w1 ⟨rfl,hb1⟩;obtain rfl:=hb1.symm)
     | fail)
    go_returns
    exact hstop.out
   | sc x=>
    replace c6:Y.cell? ⟨q,6,.none⟩=some (.iface 158 (.pointer (some ⟨q3,0,.none⟩))):=c6
    replace hdn:=hd' (hdn _ rfl)
    go_wp2_with (first
     | (go_at_call 182;(with_reducible refine hdn.out.mono ?_);rintro r w1 ⟨rfl,hb1⟩;obtain rfl:=hb1.symm)
     | fail)
    go_returns
    exact hstop.out
   | pc x=>
    replace c6:Y.cell? ⟨q,6,.none⟩=some (.iface 160 (.pointer (some ⟨q3,0,.none⟩))):=c6
    replace hdn:=hd' (hdn _ rfl)
    go_wp2_with (first
     | (go_at_call 186;(with_reducible refine hdn.out.mono ?_);rintro r w1 ⟨rfl,hb1⟩;obtain rfl:=hb1.symm)
     | fail)
    go_returns
    exact hstop.out
   | sp x=>
    replace c6:Y.cell? ⟨q,6,.none⟩=some (.iface 138 (.pointer (some ⟨q3,0,.none⟩))):=c6
    replace hdn:=hd' (hdn _ rfl)
    go_wp2_with (first
     | (go_at_call 130;(with_reducible refine hdn.out.mono ?_);rintro r w1 ⟨rfl,hb1⟩;obtain rfl:=hb1.symm)
     | fail)
    go_returns
    exact hstop.out
   | bn x=>
    replace c6:Y.cell? ⟨q,6,.none⟩=some (.iface 163 (.pointer (some ⟨q3,0,.none⟩))):=c6
    replace hdn:=hd' (hdn _ rfl)
    go_wp2_with (first
     | (go_at_call 188;(with_reducible refine hdn.out.mono ?_);rintro r w1 ⟨rfl,hb1⟩;obtain rfl:=hb1.symm)
     | fail)
    go_returns
    exact hstop.out
theorem zzq (q:Nat) (cs:Array Value) (v:Bool) (w:World) (h:zaa w q cs 135) (hv:cs[11]?=some (.bool v)):Calls Tryz.prog 76 #[.pointer (some ⟨q,0,.none⟩)] w fun e w'=> e= .returned (.bool v)/\w'=w:=by
 have c:=(h.cell 11).trans hv
 clear h hv
 go_enter Tryz.func76,Tryz.ntmps76
 go_wp2_with fail
 go_returns
 exact ⟨rfl,rfl⟩
theorem zt7 (q:Nat) (s:Sh) (t:Sk) (nv:Value) (w:World) (hq:zaa w q (za1 s t nv) 135):
  Calls Tryz.prog 74 #[.pointer (some ⟨q,0,.none⟩)] w fun e w'=> e= .returned (zgd t.found t.page t.slot)/\Below w.heap.size w w':=by
 obtain ⟨tc,tk,tf,tnow,tm,tpage,tslot,tfound,tdone⟩:=t
 obtain ⟨sp,sc,sm⟩:=s
 have lq:=hq.lt
 have c8:=ci tpage (hq.cell 8)
 have c9:=ci tslot (hq.cell 9)
 have c10:=ce (.bool tfound) (hq.cell 10)
 clear hq
 unfold zgd
 dsimp only
 cases tfound
 ·go_enter Tryz.func74,Tryz.ntmps74
  go_wp2_with fail
  go_returns
  exact ⟨rfl,Below.refl _ _⟩
 ·go_enter Tryz.func74,Tryz.ntmps74
  go_wp2_with fail
  go_quiet (fail)
  have hb:=below_drewN (Below.refl w.heap.size w) nq
  go_wp2_with fail
  go_returns
  exact ⟨rfl,hb⟩
theorem zmh (w:World):Calls Tryz.prog 74 #[.pointer none] w fun e w'=> e= .returned (zgd false 0 0)/\w'=w:=by
 unfold zgd
 go_enter Tryz.func74,Tryz.ntmps74
 go_wp2_with fail
 go_returns
 exact ⟨rfl,rfl⟩
structure z02 (w w':World) (e:Ending) (s:Sh) (t:Sk):Prop where
 at':∃ q q2,e= .returned (.pointer (some ⟨q,0,.none⟩))/\w.heap.size<=q/\SkAt w' q q2 s t/\(t.now≠none->w.heap.size<=q2)
 below:Below w.heap.size w w'
theorem z1m (s:Sh) (c k f:Int) (w:World):
  Calls Tryz.prog 51 #[.agg #[.int .i64 s.p,.int .i64 s.c,.int .i64 s.m],.int .i64 c,.int .i64 k,.int .i64 f] w fun e w'=> z02 w w' e s (zhb s c k f):=by
 have hcS:=fun W=> zau s.p s.c s.m c W
 have hcP:=fun W=> planPage_any s.p s.c s.m f W
 have hcs:=fun W=> slots_any k W
 have hnw:=fun W=> z0e s c k W
 have hst:=fun W q q2 (t:Sk) (h:SkAt W q q2 s t) hp ho=> zli q q2 s t W h hp ho
 obtain ⟨tN,htN,htN'⟩:=hidv (zhb s c k f)
 rw [<- htN']
 clear htN'
 have hbad:Hid (∀ W X,Below w.heap.size w W->Below W.heap.size W X->¬ (0<=zae s.p s.c s.m c/\0 < zah k/\0<=zak s.p s.c s.m f)->z02 w (X.alloc (.cells (za1 s ⟨c,k,f,none,0,0,0,false,true⟩ .nilIface) 135)) (.returned (.pointer (some ⟨X.heap.size,0,.none⟩))) s tN):=hd' fun W X h1 h2 h3=> by
  have e:tN=⟨c,k,f,none,0,0,0,false,true⟩:=by rw [htN.out];unfold zhb;rw [if_neg h3]
  have hb:=zab h1 h2
  refine ⟨⟨_,0,rfl,hb.size,⟨by rw [e];exact heap_alloc_new _ _,fun x hx=> ?_⟩,fun hn=> ?_⟩,hb.trans (br.alloc hb.size _)⟩
  ·rw [e] at hx;cases hx
  ·rw [e] at hn;exact absurd rfl hn
 have hgood:Hid (0<=zae s.p s.c s.m c/\0 < zah k/\0<=zak s.p s.c s.m f->tN=za5 s 5 ⟨c,k,f,some (.tk (zg3 s c k)),0,0,0,false,false⟩/\(1<=s.p/\s.p<=64)/\skOk s ⟨c,k,f,some (.tk (zg3 s c k)),0,0,0,false,false⟩):=hd' fun h=> by
  refine ⟨by rw [htN.out];unfold zhb;rw [if_pos h],?_⟩
  have h1:=zbe h.1
  have h2:=zar.1 h1.1
  have h3:=zcs h.2.2
  refine ⟨by omega,⟨fun _=> ⟨by dsimp only;omega,h.2.1,by dsimp only;omega,by dsimp only;omega,fun x hx=> ?_⟩,fun e=> (by cases e)⟩⟩
  simp only [Option.some.injEq] at hx
  subst hx
  exact ⟨zl1 _ _ _,rfl⟩
 generalize zae s.p s.c s.m c=sx at *
 generalize zak s.p s.c s.m f=px at *
 generalize zah k=sv at *
 obtain ⟨sp,sc,sm⟩:=s
 dsimp only at hcS hcP hnw ⊢
 replace hcS:=hd' hcS
 replace hcP:=hd' hcP
 replace hcs:=hd' hcs
 replace hnw:=hd' hnw
 replace hst:=hd' hst
 clear htN
 have hb0:=(Below.refl w.heap.size w).alloc lr (.cells #[.int .i64 sp,.int .i64 sc,.int .i64 sm] 24)
 have t0:=heap_alloc_new w (.cells #[.int .i64 sp,.int .i64 sc,.int .i64 sm] 24)
 have hcs4:(sx < 0)\/(0<=sx/\sv<=0)\/(0<=sx/\0 < sv/\px < 0)\/(0<=sx/\0 < sv/\0<=px):=by omega
 go_enter Tryz.func51,Tryz.ntmps51
 go_upto_region 1 with fail
 generalize w.alloc (.cells #[.int .i64 sp,.int .i64 sc,.int .i64 sm] 24)=W at *
 obtain ⟨H,hH,hH'⟩:=hidv w.heap.size
 rw [<- hH'] at t0 ⊢
 have lH:H < W.heap.size:=(Array.getElem?_eq_some_iff.1 t0).1
 have c0:W.cell? ⟨H,0,.none⟩=some (.int .i64 sp):=zac t0 0
 have c1:W.cell? ⟨H,1,.none⟩=some (.int .i64 sc):=zac t0 1
 have c2:W.cell? ⟨H,2,.none⟩=some (.int .i64 sm):=zac t0 2
 clear hH' t0
 rcases hcs4 with h1 | ⟨h1,h2⟩ | ⟨h1,h2,h3⟩ | ⟨h1,h2,h3⟩
 case inr.inr.inr=>
  go_upto_region 4 with (first
   | (go_at_call 14;(with_reducible refine (hcS.out _).mono ?_);rintro r w1 ⟨rfl,hb1⟩;have d0:=zai hb1 _ _ _ c0;have d1:=zai hb1 _ _ _ c1;have d2:=zai hb1 _ _ _ c2)
   | (go_at_call 58;(with_reducible refine (hcs.out _).mono ?_);rintro r w3 ⟨rfl,rfl⟩)
   | (go_at_call 59;(with_reducible refine (hcP.out _).mono ?_);rintro r w2 ⟨rfl,hb2⟩;have e0:=zai hb2 _ _ _ d0;have e1:=zai hb2 _ _ _ d1;have e2:=zai hb2 _ _ _ d2)
   | fail)
  obtain ⟨hN,hpb,hok0⟩:=hgood.out ⟨h1,h2,h3⟩
  replace hN:=hd' hN
  have hbA:=zab hb0 (zab hb1 hb2)
  have hbZ:=hbA.trans ((Below.refl w2.heap.size w2).alloc lr (.cells #[.int .i64 sp,.int .i64 sc,.int .i64 sm,.int .i64 c,.int .i64 k,.int .i64 f,.nilIface,.int .i64 0,.int .i64 0,.int .i64 0,.bool false,.bool false] 135) |>.mono hbA.size)
  have tq:zaa (w2.alloc (.cells #[.int .i64 sp,.int .i64 sc,.int .i64 sm,.int .i64 c,.int .i64 k,.int .i64 f,.nilIface,.int .i64 0,.int .i64 0,.int .i64 0,.bool false,.bool false] 135)) w2.heap.size (za1 ⟨sp,sc,sm⟩ ⟨c,k,f,none,0,0,0,false,false⟩ .nilIface) 135:=heap_alloc_new _ _
  have hbZ2:=(Below.refl w2.heap.size w2).alloc lr (.cells #[.int .i64 sp,.int .i64 sc,.int .i64 sm,.int .i64 c,.int .i64 k,.int .i64 f,.nilIface,.int .i64 0,.int .i64 0,.int .i64 0,.bool false,.bool false] 135)
  have hZs':w2.heap.size + 1=(w2.alloc (.cells #[.int .i64 sp,.int .i64 sc,.int .i64 sm,.int .i64 c,.int .i64 k,.int .i64 f,.nilIface,.int .i64 0,.int .i64 0,.int .i64 0,.bool false,.bool false] 135)).heap.size:=by simp
  generalize w2.alloc (.cells #[.int .i64 sp,.int .i64 sc,.int .i64 sm,.int .i64 c,.int .i64 k,.int .i64 f,.nilIface,.int .i64 0,.int .i64 0,.int .i64 0,.bool false,.bool false] 135)=Z at *
  have lq:=tq.lt
  have hqw:w.heap.size<=w2.heap.size:=hbA.size
  have hHq:H < w2.heap.size:=zqe e0
  have hZs:w2.heap.size + 1=Z.heap.size:=hZs'
  have y0:Z.cell? ⟨H,0,.none⟩=some (.int .i64 sp):=(hbZ2.cell (p:=⟨H,0,.none⟩) hHq).trans e0
  have y1:Z.cell? ⟨H,1,.none⟩=some (.int .i64 sc):=(hbZ2.cell (p:=⟨H,1,.none⟩) hHq).trans e1
  have y2:Z.cell? ⟨H,2,.none⟩=some (.int .i64 sm):=(hbZ2.cell (p:=⟨H,2,.none⟩) hHq).trans e2
  clear hbad hgood hbZ2 hbA hb1 hb2 d0 d1 d2 e0 e1 e2 c0 c1 c2 h1 h2 h3 hcS hcP hcs hZs hZs'
  obtain ⟨q,hq,hq'⟩:=hidv w2.heap.size
  rw [<- hq'] at tq lq hqw ⊢
  clear hq' hHq
  go_wp2_with (first
   | (go_at_call 60;(with_reducible refine (hnw.out _).mono ?_);rintro r w4 ⟨q2,rfl,hq2,hrow2,hb4⟩;have tq4:=tq.below hb4;have z6:=tq4.cell 6;have zf:=zax tq4)
   | (go_at_call 61;(with_reducible refine (hst.out _ q q2 ⟨c,k,f,some (.tk (zg3 ⟨sp,sc,sm⟩ c k)),0,0,0,false,false⟩ ⟨(tq4.set 6 _).cast rfl,fun x hx=> by simp only [Option.some.injEq] at hx;subst hx;exact ⟨hrow2.other (by omega) _ _,by omega⟩⟩ hpb hok0).mono ?_);rintro r w5 hT;obtain rfl:=hT.ret)
   | fail)
  go_returns
  obtain ⟨q3,hk,h3⟩:=hT.at'
  rw [hN.out]
  have hsz:(w4.setCell ⟨q,6,.none⟩ (.iface 136 (.pointer (some ⟨q2,0,.none⟩)))).heap.size=w4.heap.size:=by simp [World.setCell]
  refine ⟨⟨q,q3,rfl,hqw,hk,fun _=> ?_⟩,?_⟩
  ·have:=hbZ.size;have:=hb4.size
   rcases h3 with h3 | h3 <;> omega
  ·exact (((Only.of_below (F:=fun k=> k=q) (hbZ.trans (hb4.mono hbZ.size))).setCell (.inl rfl) _).trans hT.only (fun _ _ e=> e)).below lr (fun k e=> e ▸ hqw)
 all_goals
  try have q3:decide (0<=px)=false:=decide_eq_false (Int.not_le.2 h3)
  go_wp2_with (first
   | (go_at_call 14;(with_reducible refine (hcS.out _).mono ?_);rintro r w1 ⟨rfl,hb1⟩;have d0:=zai hb1 _ _ _ c0;have d1:=zai hb1 _ _ _ c1;have d2:=zai hb1 _ _ _ c2)
   | (go_at_call 58;(with_reducible refine (hcs.out _).mono ?_);rintro r w3 ⟨rfl,rfl⟩)
   | (go_at_call 59;(with_reducible refine (hcP.out _).mono ?_);rintro r w2 ⟨rfl,hb2⟩;have e0:=zai hb2 _ _ _ d0;have e1:=zai hb2 _ _ _ d1;have e2:=zai hb2 _ _ _ d2)
   | fail)
  go_returns
 ·exact hbad.out _ _ hb0 hb1 (by omega)
 ·exact hbad.out _ _ hb0 hb1 (by omega)
 ·exact hbad.out _ _ hb0 (zab hb1 hb2) (by omega)
end

section

open Go.RowKit

attribute [local go_sem ↓] Go.wp_at_zero Go.wp_at_succ

attribute [local go_sem ↓] zlm zlk

theorem zql (W:World):(eqGuard .neq 133 (.tmp 17) (.const .nilIface) .nilIface .nilIface).run Tryz.prog W= .ok () W:=by kernel_rfl
theorem zpn (T:TypeId) (v:Value) (W:World):(eqGuard .neq 133 (.tmp 17) (.const .nilIface) (.iface T v) .nilIface).run Tryz.prog W= .ok () W:=by kernel_rfl
attribute [local go_sem ↓] zql zpn

def ybo:Mc->FuncId
 | .tk _=> 180
 | .sc _=> 183
 | .pc _=> 187
 | .sp _=> 129
 | .bn _=> 189
theorem zxy (q2 p b:Nat) (s:Sh) (x:Mc) (m:Mem) (w:World) (h:zaa w q2 (zku s x) (mcT x)) (hw:zaq w p b m) (hqp:q2≠p) (hqb:q2≠b) (hf:Fits s m) (ho:mcOk s x) (hs:m.st < 1000000000) (F:FuncId)
  (hF:F=ybo x):
  Calls Tryz.prog F #[.pointer (some ⟨q2,0,.none⟩),.pointer (some ⟨p,0,.none⟩)] w fun e w'=> Stepped q2 p b w w' e (zku s (zbr s x m).1) (mcT (zbr s x m).1) (zbr s x m).2:=by
 subst hF
 cases x with
 | tk x=> exact zxs q2 p b s x m w h hw hqp hqb hf ho hs
 | sc x=> exact zys q2 p b s x m w h hw hqp hqb hf ho hs
 | pc x=> exact zxr q2 p b s x m w h hw hqp hqb hf ho hs
 | sp x=> exact zox q2 p b s x m w h hw hqp hqb hf ho hs
 | bn x=> exact zyw q2 p b s x m w h hw hqp hqb hf ho hs
theorem z6u (s:Sh) (x:Mc) (m:Mem) (q:Nat):mcV (zbr s x m).1 q=mcV x q:=by cases x <;> rfl
structure zez (q q2 p b:Nat) (now:Bool) (w w':World) (e:Ending) (s:Sh) (t:Sk) (m:Mem):Prop where
 ret:e= .returned (.tuple #[])
 at':∃ q3,SkAt w' q q3 s t/\(q3=q2/\(now=false->t.now=none)\/w.heap.size<=q3)
 wds:zaq w' p b m
 only:Only (fun k=> k=q\/(now=true/\k=q2)\/k=p\/k=b) w w'
theorem zzl (q q2 p b:Nat) (s:Sh) (t:Sk) (x:Mc) (m:Mem) (w:World) (h:SkAt w q q2 s t) (hx:t.now=some x) (hw:zaq w p b m) (hqp:q≠p/\q2≠p) (hqb:q≠b/\q2≠b) (hf:Fits s m) (ho:skOk s t) (hs:m.st < 1000000000) (hd:t.done=false):
  Calls Tryz.prog 116 #[.pointer (some ⟨q,0,.none⟩),.pointer (some ⟨p,0,.none⟩)] w fun e w'=> zez q q2 p b true w w' e s (zbv s t m).1 (zbv s t m).2:=by
 obtain ⟨c1,c2,c3,c4,c5⟩:=ho.cl hd
 obtain ⟨hxo,hxm⟩:=c5 x hx
 obtain ⟨hin,hne⟩:=h.inn x hx
 have hbd:=hf.bd
 have c11:w.cell? ⟨q,11,.none⟩=some (.bool false):=by rw [<- hd];exact h.row.cell 11
 have c6:w.cell? ⟨q,6,.none⟩=some (mcV x q2):=by have:=h.row.cell 6;rw [hx] at this;exact this
 have hr:zbv s t m=(za5 s 5 { t with now:=some (zbr s x m).1 },(zbr s x m).2):=by unfold zbv;rw [if_neg (by rw [hd];decide),hx]
 have hok1:skOk s { t with now:=some (zbr s x m).1 }:=⟨fun _=> ⟨c1,c2,c3,c4,fun z hz=> by simp only [Option.some.injEq] at hz;subst hz;exact ⟨zjq m hxo,zg1 (t:=t) m hxm⟩⟩,fun e=> by have e:t.found=true:=e;rw [zb7 ho.fd hd] at e;cases e⟩
 rw [hr]
 dsimp only
 have hms:=fun F hF=> zxy q2 p b s x m w hin hw hqp.2 hqb.2 hf hxo hs F hF
 have hrow0:=h.row
 have hlq:=h.row.lt
 have hset:=hd' (fun Y (hY:SkAt Y q q2 s { t with now:=some (zbr s x m).1 })=> zli q q2 s { t with now:=some (zbr s x m).1 } Y hY (by omega) hok1)
 have hmid:Hid (∀ Y e,Stepped q2 p b w Y e (zku s (zbr s x m).1) (mcT (zbr s x m).1) (zbr s x m).2->SkAt Y q q2 s { t with now:=some (zbr s x m).1 }):=hd' fun Y e hS=> by
  refine ⟨?_,fun z hz=> ?_⟩
  ·have h1:=hrow0.only hS.only (by rintro (e | e | e);exact hne e;exact hqp.1 e;exact hqb.1 e)
   rw [hx] at h1
   have h2:nowV (some (zbr s x m).1) q2=nowV (some x) q2:=z6u s x m q2
   show zaa Y q (za1 s { t with now:=some (zbr s x m).1 } (nowV (some (zbr s x m).1) q2)) _
   rw [h2]
   exact h1
  ·simp only [Option.some.injEq] at hz
   subst hz
   exact ⟨hS.row,hne⟩
 have hfin:Hid (∀ Y e Z e2,Stepped q2 p b w Y e (zku s (zbr s x m).1) (mcT (zbr s x m).1) (zbr s x m).2->zbo q q2 Y Z e2 s (za5 s 5 { t with now:=some (zbr s x m).1 })->zez q q2 p b true w Z e2 s (za5 s 5 { t with now:=some (zbr s x m).1 }) (zbr s x m).2):=hd' fun Y e Z e2 hS hT=> by
  obtain ⟨q3,h3,h4⟩:=hT.at'
  refine ⟨hT.ret,⟨q3,h3,h4.imp (fun e=> ⟨e,fun e=> by cases e⟩) (fun e=> Nat.le_trans hS.only.size e)⟩,hS.wds.only hT.only (fun e=> hqp.1 e.symm) (fun e=> hqb.1 e.symm),?_⟩
  refine (hS.only.weak (G:=fun k=> k=q\/(true=true/\k=q2)\/k=p\/k=b) fun k e=> ?_).trans hT.only (fun _ _ e=> .inl e)
  rcases e with e | e | e
  ·exact .inr (.inl ⟨rfl,e⟩)
  ·exact .inr (.inr (.inl e))
  ·exact .inr (.inr (.inr e))
 clear hr hok1 c1 c2 c3 c4 c5 hrow0 hbd hd hf ho hqp hqb h hw hxm hin
 generalize za5 s 5 { t with now:=some (zbr s x m).1 }=t2 at *
 generalize ({ t with now:=some (zbr s x m).1 }:Sk)=t1 at *
 cases x with
 | tk x=>
  replace c6:w.cell? ⟨q,6,.none⟩=some (.iface 136 (.pointer (some ⟨q2,0,.none⟩))):=c6
  replace hms:=hd' (hms 180 rfl)
  go_enter Tryz.func116,Tryz.ntmps116
  go_wp2_with (first
   | (go_at_call 180;(with_reducible refine hms.out.mono ?_);rintro r w1 hS;obtain rfl:=hS.ret)
   | (go_at_call 61;(with_reducible refine (hset.out _ (hmid.out _ _ hS)).mono ?_);rintro r w2 hT;obtain rfl:=hT.ret)
   | fail)
  go_returns
  exact hfin.out _ _ _ _ hS hT
 | sc x=>
  replace c6:w.cell? ⟨q,6,.none⟩=some (.iface 158 (.pointer (some ⟨q2,0,.none⟩))):=c6
  replace hms:=hd' (hms 183 rfl)
  go_enter Tryz.func116,Tryz.ntmps116
  go_wp2_with (first
   | (go_at_call 183;(with_reducible refine hms.out.mono ?_);rintro r w1 hS;obtain rfl:=hS.ret)
   | (go_at_call 61;(with_reducible refine (hset.out _ (hmid.out _ _ hS)).mono ?_);rintro r w2 hT;obtain rfl:=hT.ret)
   | fail)
  go_returns
  exact hfin.out _ _ _ _ hS hT
 | pc x=>
  replace c6:w.cell? ⟨q,6,.none⟩=some (.iface 160 (.pointer (some ⟨q2,0,.none⟩))):=c6
  replace hms:=hd' (hms 187 rfl)
  go_enter Tryz.func116,Tryz.ntmps116
  go_wp2_with (first
   | (go_at_call 187;(with_reducible refine hms.out.mono ?_);rintro r w1 hS;obtain rfl:=hS.ret)
   | (go_at_call 61;(with_reducible refine (hset.out _ (hmid.out _ _ hS)).mono ?_);rintro r w2 hT;obtain rfl:=hT.ret)
   | fail)
  go_returns
  exact hfin.out _ _ _ _ hS hT
 | sp x=>
  replace c6:w.cell? ⟨q,6,.none⟩=some (.iface 138 (.pointer (some ⟨q2,0,.none⟩))):=c6
  replace hms:=hd' (hms 129 rfl)
  go_enter Tryz.func116,Tryz.ntmps116
  go_wp2_with (first
   | (go_at_call 129;(with_reducible refine hms.out.mono ?_);rintro r w1 hS;obtain rfl:=hS.ret)
   | (go_at_call 61;(with_reducible refine (hset.out _ (hmid.out _ _ hS)).mono ?_);rintro r w2 hT;obtain rfl:=hT.ret)
   | fail)
  go_returns
  exact hfin.out _ _ _ _ hS hT
 | bn x=>
  replace c6:w.cell? ⟨q,6,.none⟩=some (.iface 163 (.pointer (some ⟨q2,0,.none⟩))):=c6
  replace hms:=hd' (hms 189 rfl)
  go_enter Tryz.func116,Tryz.ntmps116
  go_wp2_with (first
   | (go_at_call 189;(with_reducible refine hms.out.mono ?_);rintro r w1 hS;obtain rfl:=hS.ret)
   | (go_at_call 61;(with_reducible refine (hset.out _ (hmid.out _ _ hS)).mono ?_);rintro r w2 hT;obtain rfl:=hT.ret)
   | fail)
  go_returns
  exact hfin.out _ _ _ _ hS hT
theorem zuy (q q2 p b:Nat) (s:Sh) (t:Sk) (m:Mem) (w:World) (h:SkAt w q q2 s t) (hx:t.now=none) (hw:zaq w p b m) (hqp:q≠p) (hqb:q≠b) (hf:Fits s m) (ho:skOk s t) (hs:m.st < 1000000000) (hd:t.done=false):
  Calls Tryz.prog 116 #[.pointer (some ⟨q,0,.none⟩),.pointer (some ⟨p,0,.none⟩)] w fun e w'=> zez q q2 p b false w w' e s (zbv s t m).1 (zbv s t m).2:=by
 obtain ⟨c1,c2,c3,c4,c5⟩:=ho.cl hd
 have hbd:=hf.bd
 have h0:At3 q p b w w (za1 s t .nilIface) 135 m:=At3.start (by have:=h.row;rw [hx] at this;exact this) hw hqp hqb
 have hhr:=t.zt4 (s:=s) (by omega)
 obtain ⟨hpx,hph⟩:=hf.page hhr
 have hcpp:=fun Y=> planPage_any s.p s.c s.m (t.here s) Y
 rw [hpx] at hcpp
 have hhe:=fun Y (hY:zaa Y q (za1 s t .nilIface) 135)=> zo6 q s t .nilIface Y hY (by omega) (by omega) (by omega)
 have htu:=fun Y (hY:zaa Y q (za1 s t .nilIface) 135)=> zol q s t .nilIface Y hY (by omega)
 have hlp:=fun Y (hY:zaq Y p b m)=> zc1 p b m t.c (s.c + t.here s) Y hY hph hs
 have hrp:=fun Y=> zh3 s (t.here s) (m.get (s.c + t.here s)) Y (Mem.ze4 hw.fit _)
 have hnw:=fun k Y=> zs8 s t.c (t.here s) k Y
 obtain ⟨r,hr⟩:∃ r,r=zbv s t m:=⟨_,rfl⟩
 rw [<- hr]
 unfold zbv at hr
 rw [if_neg (by rw [hd];decide),hx] at hr
 dsimp only at hr
 rw [hpx] at hr
 generalize hpa:s.c + t.here s=pa at hlp hcpp hrp hr
 obtain ⟨x,hxx⟩:∃ x,x=m.get pa:=⟨_,rfl⟩
 rw [<- hxx] at hlp hrp hr
 have hr2:r=(if zal s.p s.c s.m (t.here s) x=true/\pgK s (t.here s) x=2 then { t with now:=some (.sp (zfa s t.c (t.here s) (pgP s (t.here s) x 0))) } else t.turn s,m.load t.c pa):=by
  rw [hr]
  unfold pgK pgP
  by_cases hB:zal s.p s.c s.m (t.here s) x=true <;> simp [hB]
 clear hr hxx hpa
 generalize zal s.p s.c s.m (t.here s) x=B at hrp hr2
 generalize pgK s (t.here s) x=e0 at hrp hr2
 generalize pgP s (t.here s) x 0=e1 at hrp hr2
 generalize pgP s (t.here s) x 1=e2 at hrp
 replace hnw:=fun Y=> hnw e1 Y
 generalize hpgq:t.here s=pg at *
 generalize hnb:zfa s t.c pg e1=nb at *
 obtain ⟨t2,ht2,ht2'⟩:∃ t2:Sk,Hid (t2=if B=true/\e0=2 then { t with now:=some (.sp nb) } else t.turn s)/\t2=_:=⟨_,hd' rfl,rfl⟩
 rw [<- ht2'] at hr2
 clear ht2'
 subst hr2
 dsimp only
 have hfin1:Hid (∀ Y q3,B=true/\e0=2->w.heap.size<=q3->zaa Y q3 (zc9 s nb) 170->At3 q p b w Y (za1 s { t with now:=some (.sp nb) } (mcV (.sp nb) q3)) 135 (m.load t.c pa)->zez q q2 p b false w Y (.returned (.tuple #[])) s t2 (m.load t.c pa)):=hd' fun Y q3 hB h3 hrow hA=> by
  have e:=ht2.out.trans (if_pos hB)
  rw [e]
  refine ⟨rfl,⟨q3,⟨hA.row,fun z hz=> ?_⟩,.inr h3⟩,hA.wds,hA.only.weak fun k hk=> ?_⟩
  ·simp only [Option.some.injEq] at hz
   subst hz
   exact ⟨hrow,by have:=h0.ls;omega⟩
  ·rcases hk with hk | hk | hk
   ·exact .inl hk
   ·exact .inr (.inr (.inl hk))
   ·exact .inr (.inr (.inr hk))
 have hfin2:Hid (∀ Y,¬ (B=true/\e0=2)->At3 q p b w Y (za1 s (t.turn s) .nilIface) 135 (m.load t.c pa)->zez q q2 p b false w Y (.returned (.tuple #[])) s t2 (m.load t.c pa)):=hd' fun Y hB hA=> by
  have e:=ht2.out.trans (if_neg hB)
  rw [e]
  refine ⟨rfl,⟨q2,⟨hA.row,fun z hz=> (by cases hz)⟩,.inl ⟨rfl,fun _=> rfl⟩⟩,hA.wds,hA.only.weak fun k hk=> ?_⟩
  rcases hk with hk | hk | hk
  ·exact .inl hk
  ·exact .inr (.inr (.inl hk))
  ·exact .inr (.inr (.inr hk))
 clear ht2 hnb hpgq hpx hph hhr c1 c2 c3 c4 c5 hbd ho hf h hw hx
 generalize t.turn s=tT at *
 generalize zc9 s nb=ics at *
 obtain ⟨sp,sc,sm⟩:=s
 obtain ⟨tc,tk,tf,tnow,tm,tpage,tslot,tfound,tdone⟩:=t
 dsimp only at hd hlp hrp hhe hcpp htu hnw hfin1 hfin2 ⊢
 subst hd
 replace hlp:=hd' hlp
 replace hrp:=hd' hrp
 replace hhe:=hd' hhe
 replace hcpp:=hd' hcpp
 replace htu:=hd' htu
 replace hnw:=hd' hnw
 have lq:=h0.lt
 obtain ⟨c0,c1,c2,c3,c4,c5⟩:=ci6 sp sc sm tc tk tf h0.cell
 have c6:=ce (.nilIface) (h0.cell 6)
 have c7:=ci tm (h0.cell 7)
 have c8:=ci tpage (h0.cell 8)
 have c9:=ci tslot (h0.cell 9)
 have c10:=ce (.bool tfound) (h0.cell 10)
 have c11:=ce (.bool false) (h0.cell 11)
 go_enter Tryz.func116,Tryz.ntmps116
 go_upto_region 4 with fail
 clear c6 c7 c8 c9 c10 c11 c4 c5
 go_cut [4,5] (fun s4 s5 wx=> ∃ E,s4= .pointer (some ⟨E,0,.none⟩)/\s5= .bool B/\w.heap.size<=E/\zaa wx E #[.int .i64 e0,.int .i64 e1,.int .i64 e2] 120/\At3 q p b w wx (za1 ⟨sp,sc,sm⟩ ⟨tc,tk,tf,tnow,tm,tpage,tslot,tfound,false⟩ .nilIface) 135 (m.load tc pa))
 case first=>
  refine zcl (x:=⟨23,24,21,4,48,120, #[.int .i64 0,.int .i64 0,.int .i64 0], #[.int .i64 e0,.int .i64 e1,.int .i64 e2]⟩) (ld:=18) (v:= .int .u64 x) (ts:= [34,38,45])
   (K0:=fun Y=> At3 q p b w Y (za1 ⟨sp,sc,sm⟩ ⟨tc,tk,tf,tnow,tm,tpage,tslot,tfound,false⟩ .nilIface) 135 m) (K1:=fun Y=> At3 q p b w Y (za1 ⟨sp,sc,sm⟩ ⟨tc,tk,tf,tnow,tm,tpage,tslot,tfound,false⟩ .nilIface) 135 (m.load tc pa))
   (by kernel_rfl) (by simp only [zfq,zej,nopO,nopC,Nat.reduceBEq,Bool.or_false,Bool.or_true,Bool.false_eq_true,↓reduceIte,Nat.reduceAdd];exact rfl) (by kernel_rfl) (by kernel_rfl) (by kernel_rfl) (by dsimp only;decide) (by dsimp only;simp) (by dsimp only;decide) (by dsimp only;simp) (by kernel_rfl) (by dsimp only;decide) (by simp)
   ⟨⟨fun Y Y' h1 h2 h3=> h1.far h2 h3 h0.only.size⟩,⟨fun Y Y' h1 h2 h3=> h1.far h2 h3 h0.only.size⟩⟩ h0.drew ?_
  apply Exists.intro
  refine ⟨fun B hb hs=> ?_,fun _=> ?_,?_,?_⟩
  case refine_1=>
   have hrB:zaa B q (za1 ⟨sp,sc,sm⟩ ⟨tc,tk,tf,tnow,tm,tpage,tslot,tfound,false⟩ .nilIface) 135:=hb.elim (fun h=> h.row) (fun h=> h.row)
   have lB:=hrB.lt
   obtain ⟨k0,k1,k2,k3⟩:=ci4 sp sc sm tc hrB.cell
   repeat (go_big_quiet_step ((first | (go_at_call 87;exact zam (hhe.out _ (hrB.below (Ext.below _)))) | (go_at_call 59;exact zam (hcpp.out _)) | (go_at_call 122;exact zam (hrp.out _)) | fail)))
   exact wpQuiet_nil rfl
  case refine_2=> exact zqa rfl rfl rfl rfl rfl rfl rfl rfl (by dsimp only;decide +kernel) (by dsimp only;decide +kernel)
  case refine_3=> exact zcz rfl (fun _ _=> by simp [go_sem]) fun Y hY2 hs=> (hlp.out Y hY2.wds).mono fun r Y' ⟨h1,h2,h3⟩=> ⟨h1,hY2.load h2 h3,h3.weak fun k hk=> hk ▸ hY2.ls.2.1⟩
  case refine_4=>
   intro a w4 M hf
   obtain ⟨rfl,hbig,hk1,hone⟩:=hf
   obtain ⟨hM,hone⟩:=hone (by simp)
   simp only [Act.put,vput,vptr]
   go_wp2
   go_meet
   exact ⟨_,rfl,rfl,hM,hone,hk1⟩
 case rest=>
  obtain ⟨E,rfl,rfl,hE,hEr,hA⟩:=hcut
  have hEq:E≠q:=fun e=> by rw [e] at hE;omega
  have g0:=ci e0 (hEr.cell 0)
  have g1:=ci e1 (hEr.cell 1)
  clear h0 c0 c1 c2 c3 hlp hrp hcpp
  by_cases hB:B=true/\e0=2
  ·replace hfin1:=hd' (fun Y q3=> hfin1.out Y q3 hB)
   obtain ⟨rfl,rfl⟩:=hB
   clear hfin2 htu
   go_upto_region 6 with fail
   have hS:=hd' (fun (Y:World) (v:Value) (h:zaa Y q (za1 ⟨sp,sc,sm⟩ ⟨tc,tk,tf,tnow,tm,tpage,tslot,tfound,false⟩ v) 135) (h2:zaa Y E #[.int .i64 2,.int .i64 e1,.int .i64 e2] 120)=> (⟨h.cell 0,h.cell 1,h.cell 2,h.cell 3,h2.cell 1⟩:Y.cell? ⟨q,0,.none⟩=some (.int .i64 sp)/\Y.cell? ⟨q,1,.none⟩=some (.int .i64 sc)/\Y.cell? ⟨q,2,.none⟩=some (.int .i64 sm)/\Y.cell? ⟨q,3,.none⟩=some (.int .i64 tc)/\Y.cell? ⟨E,1,.none⟩=some (.int .i64 e1)))
   go_region_held3 (fun Y=> Y.cell? ⟨q,0,.none⟩=some (.int .i64 sp)/\Y.cell? ⟨q,1,.none⟩=some (.int .i64 sc)/\Y.cell? ⟨q,2,.none⟩=some (.int .i64 sm)/\Y.cell? ⟨q,3,.none⟩=some (.int .i64 tc)/\Y.cell? ⟨E,1,.none⟩=some (.int .i64 e1))
    (first | exact hS.out _ _ hA.row.drew hEr.drew | exact hS.out _ _ hB.row hE5 | exact hS.out _ _ hC.row hE6 | exact hS.out _ _ ((hC.set 6 _).row.cast rfl) (hE6.other hEq _ _) | fail)
    (first
     | (go_at_call 87;(with_reducible refine (hhe.out _ hA.row.drew).mono ?_);rintro r w5 ⟨rfl,hb5⟩;have hB:=hA.drew.below hb5;have hE5:=hEr.drew.below hb5)
     | (go_at_call 124;(with_reducible refine (hnw.out _).mono ?_);rintro r w6 ⟨q3,rfl,hq3,hrow3,hb6⟩;have hC:=hB.below hb6;have hE6:=hE5.below hb6;have z6:=hC.cell 6;have zf:=hC.free)
     | fail)
   go_wp2_with fail
   go_returns
   exact hfin1.out _ q3 (Nat.le_trans hB.only.size hq3) (hrow3.other (by have:=hB.lt;omega) _ _) (hC.set 6 _)
  ·replace hfin2:=hd' (fun Y=> hfin2.out Y hB)
   have hne:B=false\/(B=true/\(e0==2)=false):=by
    rcases Bool.eq_false_or_eq_true B with h | h
    ·exact .inr ⟨h,by simpa [h] using hB⟩
    ·exact .inl h
   clear hB hfin1 hhe hnw
   rcases hne with rfl | ⟨rfl,hne⟩
   all_goals
    go_wp2_with (first | (go_at_call 88;(with_reducible refine (htu.out _ hA.row).mono ?_);rintro r w1 hT;obtain rfl:=hT.ret) | fail)
    go_returns
    exact hfin2.out _ (hA.turned hT)
theorem zns (q q2 p b:Nat) (s:Sh) (t:Sk) (m:Mem) (w:World) (h:SkAt w q q2 s t) (hw:zaq w p b m) (hd:t.done=true) (now:Bool) (hn:now=false->t.now=none):
  Calls Tryz.prog 116 #[.pointer (some ⟨q,0,.none⟩),.pointer (some ⟨p,0,.none⟩)] w fun e w'=> zez q q2 p b now w w' e s (zbv s t m).1 (zbv s t m).2:=by
 have hr:zbv s t m=(t,m):=by unfold zbv;rw [if_pos hd]
 rw [hr]
 have c11:w.cell? ⟨q,11,.none⟩=some (.bool true):=by rw [<- hd];exact h.row.cell 11
 have hfin:zez q q2 p b now w w (.returned (.tuple #[])) s t m:=⟨rfl,⟨q2,h,.inl ⟨rfl,hn⟩⟩,hw,Only.refl _ _⟩
 replace hfin:=hd' hfin
 clear h hw hd hr hn
 go_enter Tryz.func116,Tryz.ntmps116
 go_wp2_with fail
 go_returns
 exact hfin.out
theorem zos (p:Nat) (w:World):
  Calls Tryz.prog 116 #[.pointer none,.pointer (some ⟨p,0,.none⟩)] w fun e w'=> e= .returned (.tuple #[])/\w'=w:=by
 go_enter Tryz.func116,Tryz.ntmps116
 go_wp2_with fail
 go_returns
 exact ⟨rfl,rfl⟩
end

end Go.Proofs.YthgekdlegbmehaaGreat

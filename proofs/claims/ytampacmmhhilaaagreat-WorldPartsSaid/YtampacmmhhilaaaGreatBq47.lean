/- Texts bound together: WldZ WNew WGet. -/
import Derived.Test.YtampacmmhhilaaaGreatBq46

set_option linter.all false
set_option maxHeartbeats 8000000
set_option maxRecDepth 100000
namespace Go.Proofs.YtampacmmhhilaaaGreat

section

open Go.RowKit

attribute [local go_sem ↓] Go.wp_at_zero Go.wp_at_succ

theorem zrm (kd cl a b d:Int) (bi:Nat) (w:World):Calls Tryz.prog 66 #[.agg #[.int .i64 kd,.int .i64 cl,.int .i64 a,.int .i64 b,.int .i64 d,.float .f64 bi]] w fun e w'=> e= .returned (.bool (decide (1<=kd/\kd<=4)))/\Below w.heap.size w w':=by
 by_cases h1:1<=kd
 ·by_cases h2:kd<=4
  ·rw [decide_eq_true (And.intro h1 h2)]
   have d1:decide (kd>=1)=true:=decide_eq_true h1
   have d2:decide (kd<=4)=true:=decide_eq_true h2
   go_enter Tryz.func66,Tryz.ntmps66
   go_wp2
   go_ret
   exact ⟨rfl,br.alloc lr _⟩
  ·rw [decide_eq_false (fun h:1<=kd/\kd<=4=> h2 h.2)]
   have d1:decide (kd>=1)=true:=decide_eq_true h1
   have d2:decide (kd<=4)=false:=decide_eq_false h2
   go_enter Tryz.func66,Tryz.ntmps66
   go_wp2
   go_ret
   exact ⟨rfl,br.alloc lr _⟩
 ·rw [decide_eq_false (fun h:1<=kd/\kd<=4=> h1 h.1)]
  have d1:decide (kd>=1)=false:=decide_eq_false h1
  go_enter Tryz.func66,Tryz.ntmps66
  go_wp2
  go_ret
  exact ⟨rfl,br.alloc lr _⟩
section

variable {B:Nat} {F:Nat->Prop} {W:World} {g:Nat} {s:Sh} {d:Wd} {x:Wx} {n:Nat}

theorem ybl (h:WdP B F W g s d x) (hB:B<=W.heap.size) (ho:wdOk s d n) (c:Int) (k:Kl) (hk:d.kl c=some k) (o:Op3):
  Calls Tryz.prog 70 #[.pointer (some ⟨x.qs c.toNat,0,.none⟩),.agg #[.int .i64 o.k,.int .i64 o.a,.int .i64 o.n]] W fun r w'=> ∃ v x',r= .returned (.tuple #[v,.int .i64 (k.invoke s o).2.2])/\RdE w' v (k.invoke s o).2.1/\
   WdP B (grow F W w') w' g s { d with l:=d.l.set c.toNat (some (k.invoke s o).1) } x'/\Only F W w':=by
 obtain ⟨hok,hcc,hcr⟩:=ho.kl c k hk
 have hcl:=(Wd.zfs hk).2
 have hkD:d.l.getD c.toNat none=some k:=by
  have h1:=hk
  unfold Wd.kl at h1
  rw [if_pos hcr.1] at h1;exact h1
 have hcw:=h.cw (n:=0) hkD hok ho.fi
 refine (yfi o hcw hB).mono fun r w' hS=> ?_
 obtain ⟨v,h1,h2⟩:=hS.ret
 have h3:=h.stepped hB hkD hcl hS.cw.kl hS.cw.wd (Only.weak hS.only fun i hi=> .inl hi)
 exact ⟨v,_,h1,zut h2,h3.1,h3.2⟩
theorem yaq (h:WdP B F W g s d x) (hB:B<=W.heap.size) (ho:wdOk s d n) (c:Ch) (hbad:c.bad s):
  Calls Tryz.prog 25 #[.pointer (some ⟨g,0,.none⟩),.agg c.cells.toArray] W fun e w'=> e= .returned (.int .i64 1)/\WdTo B F W w' g s d:=by
 have hbd:=ho.fi.bd
 have hm:=ho.fi.may
 obtain ⟨ck,cc,co,ca,cn,cb⟩:=c
 show Calls Tryz.prog 25 #[.pointer (some ⟨g,0,.none⟩),.agg #[.int .i64 ck,.int .i64 cc,.int .i64 co,.int .i64 ca,.int .i64 cn,.float .f64 cb]] W _
 have hb0:=(Below.refl W.heap.size W).alloc lr (.cells #[.int .i64 ck,.int .i64 cc,.int .i64 co,.int .i64 ca,.int .i64 cn,.float .f64 cb] 46)
 have t0:zaa (W.alloc (.cells #[.int .i64 ck,.int .i64 cc,.int .i64 co,.int .i64 ca,.int .i64 cn,.float .f64 cb] 46)) W.heap.size #[.int .i64 ck,.int .i64 cc,.int .i64 co,.int .i64 ca,.int .i64 cn,.float .f64 cb] 46:=heap_alloc_new _ _
 have hmy:=fun Y=> zrm ck cc co ca cn cb Y
 have hcp:=fun Y=> zau s.p s.c s.m cc Y
 have hnil:∀ (p:Nat) (W:World),(binOp .eql 27 (.pointer (some ⟨p,0,.none⟩)) (.pointer none)).run Tryz.prog W= .ok (.bool false) W:=fun p W=> by kernel_rfl
 have hstay:=fun W1 (hb:Below W.heap.size W W1)=> WdTo.start (W1:=W1) h hB hb
 have g0:(W.alloc (.cells #[.int .i64 ck,.int .i64 cc,.int .i64 co,.int .i64 ca,.int .i64 cn,.float .f64 cb] 46)).cell? ⟨g,0,.none⟩=some (.int .i64 s.p):=(h.below hb0).top.cell 0
 have g1:(W.alloc (.cells #[.int .i64 ck,.int .i64 cc,.int .i64 co,.int .i64 ca,.int .i64 cn,.float .f64 cb] 46)).cell? ⟨g,1,.none⟩=some (.int .i64 s.c):=(h.below hb0).top.cell 1
 have g2:(W.alloc (.cells #[.int .i64 ck,.int .i64 cc,.int .i64 co,.int .i64 ca,.int .i64 cn,.float .f64 cb] 46)).cell? ⟨g,2,.none⟩=some (.int .i64 s.m):=(h.below hb0).top.cell 2
 have lgX:=(h.below hb0).top.lt
 replace hstay:=hd' hstay
 unfold Ch.bad at hbad
 dsimp only at hbad
 clear h
 by_cases hk:1<=ck/\ck<=4
 ·have hsx:zae s.p s.c s.m cc < 0:=by
   rcases Int.lt_or_le (zae s.p s.c s.m cc) 0 with e | e
   ·exact e
   ·have:=(zbe e).2;omega
  rw [decide_eq_true hk] at hmy
  generalize zae s.p s.c s.m cc=sx at *
  replace hmy:=hd' hmy
  replace hcp:=hd' hcp
  clear hbad hk
  go_enter Tryz.func25,Tryz.ntmps25
  go_upto_region 1 with fail
  generalize W.alloc (.cells #[.int .i64 ck,.int .i64 cc,.int .i64 co,.int .i64 ca,.int .i64 cn,.float .f64 cb] 46)=X at *
  obtain ⟨H,hH,hH'⟩:=hidv W.heap.size
  rw [<- hH'] at t0 ⊢
  try rw [<- hH'] at hFH hHl
  clear hH'
  replace hb0:=hd' hb0
  have lH:=t0.lt
  obtain ⟨x0,x1,x2,x3,x4⟩:=ci5 ck cc co ca cn t0.cell
  have x5:=ce (.float .f64 cb) (t0.cell 5)
  refine zaj (by kernel_rfl) (by kernel_rfl) ?_
  repeat (go_big_quiet_step ((first | (go_at_call 66;exact zam (hmy.out _)) | (go_at_call 67;exact zam (hcp.out _)) | fail)))
  refine wpQuiet_nil ?_
  rintro _ ⟨e',rfl⟩
  have hX:=e'.below
  generalize e'.w=Y at *
  clear x0 x1 x2 x3 x4 x5
  go_wp2_with fail
  go_returns
  exact ⟨rfl,hstay.out _ (zab hb0.out hX)⟩
 ·rw [decide_eq_false hk] at hmy
  replace hmy:=hd' hmy
  replace hcp:=hd' hcp
  clear hbad hk
  go_enter Tryz.func25,Tryz.ntmps25
  go_upto_region 1 with fail
  generalize W.alloc (.cells #[.int .i64 ck,.int .i64 cc,.int .i64 co,.int .i64 ca,.int .i64 cn,.float .f64 cb] 46)=X at *
  obtain ⟨H,hH,hH'⟩:=hidv W.heap.size
  rw [<- hH'] at t0 ⊢
  try rw [<- hH'] at hFH hHl
  clear hH'
  replace hb0:=hd' hb0
  have lH:=t0.lt
  obtain ⟨x0,x1,x2,x3,x4⟩:=ci5 ck cc co ca cn t0.cell
  have x5:=ce (.float .f64 cb) (t0.cell 5)
  refine zaj (by kernel_rfl) (by kernel_rfl) ?_
  repeat (go_big_quiet_step ((first | (go_at_call 66;exact zam (hmy.out _)) | (go_at_call 67;exact zam (hcp.out _)) | fail)))
  refine wpQuiet_nil ?_
  rintro _ ⟨e',rfl⟩
  have hX:=e'.below
  generalize e'.w=Y at *
  clear x0 x1 x2 x3 x4 x5
  go_wp2_with fail
  go_returns
  exact ⟨rfl,hstay.out _ (zab hb0.out hX)⟩
theorem z0t (h:WdP B F W g s d x) (hB:B<=W.heap.size) (ho:wdOk s d n) (hn:n<=10000000) (c:Ch) (hgood:¬ c.bad s):
  Calls Tryz.prog 25 #[.pointer (some ⟨g,0,.none⟩),.agg c.cells.toArray] W fun e w'=> e= .returned (.int .i64 (d.act s c).2)/\WdTq (fun q=> c.kind=3->q=x.qs) B F W w' g s (d.act s c).1:=by
 have hbd:=ho.fi.bd
 have hm:=ho.fi.may
 obtain ⟨ck,cc,co,ca,cn,cb⟩:=c
 show Calls Tryz.prog 25 #[.pointer (some ⟨g,0,.none⟩),.agg #[.int .i64 ck,.int .i64 cc,.int .i64 co,.int .i64 ca,.int .i64 cn,.float .f64 cb]] W _
 have hb0:=(Below.refl W.heap.size W).alloc lr (.cells #[.int .i64 ck,.int .i64 cc,.int .i64 co,.int .i64 ca,.int .i64 cn,.float .f64 cb] 46)
 have t0:zaa (W.alloc (.cells #[.int .i64 ck,.int .i64 cc,.int .i64 co,.int .i64 ca,.int .i64 cn,.float .f64 cb] 46)) W.heap.size #[.int .i64 ck,.int .i64 cc,.int .i64 co,.int .i64 ca,.int .i64 cn,.float .f64 cb] 46:=heap_alloc_new _ _
 have hmy:=fun Y=> zrm ck cc co ca cn cb Y
 have hcp:=fun Y=> zau s.p s.c s.m cc Y
 have hnil:∀ (p:Nat) (W:World),(binOp .eql 27 (.pointer (some ⟨p,0,.none⟩)) (.pointer none)).run Tryz.prog W= .ok (.bool false) W:=fun p W=> by kernel_rfl
 have hnk:∀ (p:Nat) (W:World),(binOp .eql 36 (.pointer (some ⟨p,0,.none⟩)) (.pointer none)).run Tryz.prog W= .ok (.bool false) W:=fun p W=> by kernel_rfl
 have hkc:1<=ck/\ck<=4/\0<=cc/\cc < s.c:=by
  unfold Ch.bad at hgood
  dsimp only at hgood
  omega
 have hc:0<=cc/\cc < s.c:=⟨hkc.2.2.1,hkc.2.2.2⟩
 have hc0:¬ cc < 0:=by omega
 have hc1:=hc.1
 rw [zeu hm hc] at hcp
 rw [decide_eq_true (And.intro hkc.1 hkc.2.1)] at hmy
 have hi:cc.toNat < d.l.length:=by rw [ho.len];omega
 have hic:cc < (d.l.length:Int):=by omega
 have htr:=ho.tr
 have hact:d.act s ⟨ck,cc,co,ca,cn,cb⟩=if ck=1 then d.begin s ⟨ck,cc,co,ca,cn,cb⟩ else match d.kl cc with
  | none=> (d,2)
  | some k=> if ck=3 then d.step s cc k else if ck=2 then d.ask s ⟨ck,cc,co,ca,cn,cb⟩ k else d.kill cc:=if_neg hgood
 have hstart:∀ Z,Below W.heap.size W Z->Calls Tryz.prog 68 #[.pointer (some ⟨g,0,.none⟩),.agg #[.int .i64 ck,.int .i64 cc,.int .i64 co,.int .i64 ca,.int .i64 cn,.float .f64 cb]] Z fun e w'=> e= .returned (.int .i64 (d.begin s ⟨ck,cc,co,ca,cn,cb⟩).2)/\WdTo B F Z w' g s (d.begin s ⟨ck,cc,co,ca,cn,cb⟩).1:=fun Z hb=> zyt (h.below hb) (by have:=hb.size;omega) ho hn ⟨ck,cc,co,ca,cn,cb⟩ hc
 have hstep:=fun k (hk:d.kl cc=some k) Z (hb:Below W.heap.size W Z)=> z2w (h.below hb) (by have:=hb.size;omega) ho hn cc k hk
 have hask:=fun k (hk:d.kl cc=some k) Z (hb:Below W.heap.size W Z)=> ybl (h.below hb) (by have:=hb.size;omega) ho cc k hk ⟨co,ca,cn⟩
 have hfrom:=fun W1 W2 d2 (hb:Below W.heap.size W W1)=> WdTo.from (W1:=W1) (W2:=W2) (d2:=d2) h hB hb
 have hstay:=fun W1 (hb:Below W.heap.size W W1)=> WdTo.start (W1:=W1) h hB hb
 have hfromq:=fun W1 W2 d2 (hb:Below W.heap.size W W1)=> WdTq.from (R:=fun q=> q=x.qs) (W1:=W1) (W2:=W2) (d2:=d2) h hB hb
 have hstayq:=fun W1 (hb:Below W.heap.size W W1)=> WdTq.start (R:=fun q=> ck=3->q=x.qs) (W1:=W1) h hB hb (fun _=> rfl)
 have hss:=fun F' Y L x' (hY:WdP B F' Y g s { d with l:=L } x')=> zlc hY ho.fi cc 2 hc
 have hplace:=fun Z Y (hb:Below W.heap.size W Z) (hb2:Below Z.heap.size Z Y)=> WdP.place (W:=Z) (W':=Y) (c:=cc.toNat) (q:=0) (o:=none) (Fq:=fun _=> False) (h.below hb) (by have:=hb.size;omega) hi hb2 (fun k e=> by cases e) (fun i e=> e.elim) rfl
 have hFH:¬ F W.heap.size:=fun e=> by have:=(h.lt _ e).2;omega
 have hHl:W.heap.size≠x.lb:=fun e=> by have:=(h.lt _ h.fl.1).2;omega
 have hgl:g≠x.lb:=fun e=> by have:=h.fg.2;have:=h.fl.2;rw [e] at *;omega
 have hKw:∀ Y:World,Below W.heap.size W Y->zaa Y g (zfd s x.p x.lb d.l.length x.tv x.sv) 122/\Y.cell? ⟨x.lb,cc.toNat,.none⟩=some (ptrK (d.kl cc) (x.qs cc.toNat))/\(∀ i,Y.frozen? ⟨x.lb,i,.none⟩=false)/\x.lb < Y.heap.size:=fun Y hb=> ⟨(h.below hb).top,(h.below hb).ptr hc.1 hi,zax (h.below hb).lst,(h.below hb).lst.lt⟩
 have k0:=hKw _ hb0
 obtain ⟨g0,g1,g2⟩:=ci3 s.p s.c s.m k0.1.cell
 have lgX:=k0.1.lt
 obtain ⟨R,hR,hR'⟩:∃ R:Wd × Int,Hid (R=d.act s ⟨ck,cc,co,ca,cn,cb⟩)/\R=d.act s ⟨ck,cc,co,ca,cn,cb⟩:=⟨_,hd' rfl,rfl⟩
 rw [<- hR']
 clear hR' k0 h
 replace hR:=hd' (hR.out.trans hact)
 replace hstart:=hd' hstart
 replace hstep:=hd' hstep
 replace hask:=hd' hask
 replace hfrom:=hd' hfrom
 replace hstay:=hd' hstay
 replace hfromq:=hd' hfromq
 replace hstayq:=hd' hstayq
 replace hss:=hd' hss
 replace hplace:=hd' hplace
 replace hKw:=hd' hKw
 replace hmy:=hd' hmy
 replace hcp:=hd' hcp
 replace htr:=hd' htr
 replace hgood:=hd' hgood
 clear hact
 go_enter Tryz.func25,Tryz.ntmps25
 go_upto_region 1 with fail
 generalize W.alloc (.cells #[.int .i64 ck,.int .i64 cc,.int .i64 co,.int .i64 ca,.int .i64 cn,.float .f64 cb] 46)=X at *
 obtain ⟨H,hH,hH'⟩:=hidv W.heap.size
 rw [<- hH'] at t0 ⊢
 try rw [<- hH'] at hFH hHl
 clear hH'
 replace hb0:=hd' hb0
 have lH:=t0.lt
 obtain ⟨x0,x1,x2,x3,x4⟩:=ci5 ck cc co ca cn t0.cell
 have x5:=ce (.float .f64 cb) (t0.cell 5)
 refine zaj (by kernel_rfl) (by kernel_rfl) ?_
 repeat (go_big_quiet_step ((first | (go_at_call 66;exact zam (hmy.out _)) | (go_at_call 67;exact zam (hcp.out _)) | fail)))
 refine wpQuiet_nil ?_
 rintro _ ⟨e',rfl⟩
 have hX:=e'.below
 generalize e'.w=Y at *
 clear x0 x1 x2 x3 x4 x5
 have hWY:=zab hb0.out hX
 have tY:=t0.below hX
 have kY:=hKw.out _ hWY
 clear t0 hb0 hcp hmy g0 g1 g2 lgX lH
 have hYs:=hX.size
 have hHY:H < Y.heap.size:=tY.lt
 have lgY:=kY.1.lt
 obtain ⟨y0,y1,y2,y3,y4⟩:=ci5 ck cc co ca cn tY.cell
 have y5:=ce (.float .f64 cb) (tY.cell 5)
 have g4:=ce (.slice (some ⟨x.lb,0,.none⟩) d.l.length d.l.length) (kY.1.cell 4)
 have yl:=kY.2.1
 have lly:=kY.2.2.2
 clear kY hX
 go_upto_region 3 with fail
 go_quiet (fail)
 have hYZ:=below_drewN (Below.refl Y.heap.size Y) nq
 have tZ:zaa (Y.drewN nq) H _ _:=tY.drewN nq
 generalize Y.drewN nq=Z at *
 have hWZ:=zab hWY hYZ
 have kZ:=hKw.out _ hWZ
 have lHZ:=tZ.lt
 have lgZ:=kZ.1.lt
 obtain ⟨z0,z1,z2,z3,z4⟩:=ci5 ck cc co ca cn tZ.cell
 have z5:=ce (.float .f64 cb) (tZ.cell 5)
 have gz4:=ce (.slice (some ⟨x.lb,0,.none⟩) d.l.length d.l.length) (kZ.1.cell 4)
 have zl:=kZ.2.1
 have zf:=kZ.2.2.1
 have llz:=kZ.2.2.2
 clear y0 y1 y2 y3 y4 y5 g4 yl lly tY lgY hHY kZ hYs hYZ hWY
 obtain ⟨pv,hpv,hpv'⟩:∃ pv,Hid (pv=ptrK (d.kl cc) (x.qs cc.toNat))/\pv=ptrK (d.kl cc) (x.qs cc.toNat):=⟨_,hd' rfl,rfl⟩
 rw [<- hpv'] at zl ⊢
 clear hpv'
 by_cases hk1:ck=1
 ·have hR2:=hd' (hR.out.trans (if_pos hk1))
  clear hR hkc
  subst hk1
  go_wp2_with (first
   | (go_at_call 68;(with_reducible refine (hstart.out _ hWZ).mono ?_);rintro r w5 ⟨rfl,hT⟩)
   | fail)
  go_returns
  rw [hR2.out]
  exact ⟨rfl,(hfrom.out _ _ _ hWZ hT).q fun q e=> absurd e (show ¬ (1:Int)=3 by decide)⟩
 ·have b1:(ck==1)=false:=by rw [beq_eq_false_iff_ne];exact hk1
  rcases hkl:d.kl cc with _ | k
  ·have hR2:=hd' (hR.out.trans ((if_neg hk1).trans (by rw [hkl])):R=(d,2))
   obtain rfl:pv= .pointer none:=by rw [hpv.out,hkl];rfl
   clear hR hkc
   go_wp2_with fail
   go_returns
   rw [hR2.out]
   exact ⟨rfl,hstayq.out _ hWZ⟩
  ·have hR2:=hd' (hR.out.trans ((if_neg hk1).trans (by rw [hkl])):R=if ck=3 then d.step s cc k else if ck=2 then d.ask s ⟨ck,cc,co,ca,cn,cb⟩ k else d.kill cc)
   obtain rfl:pv= .pointer (some ⟨x.qs cc.toNat,0,.none⟩):=by rw [hpv.out,hkl];rfl
   clear hR
   by_cases hk3:ck=3
   ·have hR3:=hd' (hR2.out.trans (if_pos hk3))
    have hsp:=hd' (hstep.out k hkl Z hWZ)
    clear hR2 hkc
    subst hk3
    go_wp2_with (first
     | (go_at_call 69;(with_reducible refine hsp.out.mono ?_);rintro r w5 ⟨rfl,hT⟩)
     | fail)
    go_returns
    rw [hR3.out]
    first | exact ⟨rfl,hfromq.out _ _ _ hWZ hT⟩ | exact ⟨rfl,(hfromq.out _ _ _ hWZ hT).imp fun q e _=> e⟩
   ·have b3:(ck==3)=false:=by rw [beq_eq_false_iff_ne];exact hk3
    by_cases hk2:ck=2
    ·have hR3:=hd' (hR2.out.trans ((if_neg hk3).trans (if_pos hk2)))
     have hak:=hd' (hask.out k hkl Z hWZ)
     have hle:=Kl.zo3 s k ⟨co,ca,cn⟩
     have hR4:d.ask s ⟨ck,cc,co,ca,cn,cb⟩ k=(⟨d.m,d.l.set cc.toNat (some (k.invoke s ⟨co,ca,cn⟩).1),d.tr ++ (k.invoke s ⟨co,ca,cn⟩).2.1,d.lg⟩,(k.invoke s ⟨co,ca,cn⟩).2.2):=rfl
     replace hR3:=hd' (hR3.out.trans hR4)
     clear hR2 hkc hR4
     generalize (k.invoke s ⟨co,ca,cn⟩).1=k' at *
     generalize (k.invoke s ⟨co,ca,cn⟩).2.1=es at *
     generalize (k.invoke s ⟨co,ca,cn⟩).2.2=er at *
     subst hk2
     have hBZ:B<=Z.heap.size:=by have:=hWZ.size;omega
     go_wp2_with (first
      | (go_at_call 70;(with_reducible refine hak.out.mono ?_);rintro r w5 ⟨v,x5,rfl,hrd,hx5,ho5⟩;have hs5:=ho5.size;have hB5:B<=w5.heap.size:=(by omega);have htl:=hd' (zwm hx5 hB5 es v hrd (by show d.tr.length + es.length<=_;have:=htr.out;omega));have hT5:=hd' ((⟨⟨x5,hx5⟩,ho5,hB5⟩:WdTo B F Z w5 g s { d with l:=d.l.set cc.toNat (some k') })))
      | (go_at_call 71;(with_reducible refine htl.out.mono ?_);rintro r w6 ⟨rfl,hT6⟩)
      | fail)
     go_returns
     rw [hR3.out]
     exact ⟨rfl,(hfrom.out _ _ _ hWZ (WdTo.trans hT5.out hT6)).q fun q e=> absurd e (show ¬ (2:Int)=3 by decide)⟩
    ·have b2:(ck==2)=false:=by rw [beq_eq_false_iff_ne];exact hk2
     have hR3:=hd' (hR2.out.trans ((if_neg hk3).trans (if_neg hk2)))
     clear hR2 hkc
     go_upto_region 14 with fail
     have kz1:=(hKw.out _ hWZ).1
     go_region_held3 (fun Y=> Y.cell? ⟨H,1,.none⟩=some (.int .i64 cc)/\Y.cell? ⟨g,4,.none⟩=some (.slice (some ⟨x.lb,0,.none⟩) d.l.length d.l.length))
      (first | exact ⟨z1,gz4⟩ | exact ⟨(tZ.drew.other hHl _ _).cell 1,(kz1.drew.other hgl _ _).cell 4⟩ | fail)
      (fail)
     obtain ⟨x',hx',ho',_,_⟩:=hplace.out Z Z.drew hWZ br.drew
     have tK:=tZ.drew.other hHl cc.toNat (ptrK none 0)
     have hsY:=ho'.size
     have hT1:=hd' (⟨⟨x',hx'⟩,ho',by have:=hWZ.size;omega⟩:WdTo B F Z _ g s { d with l:=d.l.set cc.toNat none })
     change Exit.then _ _ _ _ (Z.drew.setCell ⟨x.lb,cc.toNat,.none⟩ (ptrK none 0))
     generalize Z.drew.setCell ⟨x.lb,cc.toNat,.none⟩ (ptrK none 0)=K1 at *
     have cK:=ci cc (tK.cell 1)
     have lK:=tK.lt
     have hnH:¬ grow F Z K1 H:=fun e=> by rcases e with e | e;exact hFH e;omega
     have hBK:B<=K1.heap.size:=by have:=hWZ.size;omega
     have lgK:=hx'.top.lt
     have htl2:d.tr.length + 1<=100000000:=by have:=htr.out;omega
     have hR4:d.kill cc=(⟨d.m.put cc (za8 2 0),d.l.set cc.toNat none,d.tr ++ [⟨1,cc,0,0,0,0,0,0⟩],d.lg⟩,0):=rfl
     replace hR3:=hd' (hR3.out.trans hR4)
     replace htl2:=hd' htl2
     clear hR4 kz1 z0 z1 z2 z3 z4 z5 gz4 zl zf llz lHZ lgZ
     go_wp2_with (first
      | (go_at_call 72;(with_reducible refine (hss.out _ _ _ _ hx').mono ?_);rintro r w5 ⟨rfl,hx5,ho5⟩;have tK5:=tK.only ho5 hnH;have c5:=ci cc (tK5.cell 1);have l5:=tK5.lt;have hT5:=hd' (WdTo.trans hT1.out (WdTo.set hx' hBK hx5 ho5));obtain ⟨⟨x2,hx2⟩,_,hB5⟩:=id hT5.out;have lg5:=hx2.top.lt;have hte:=zq0 hx2 hB5 1 cc htl2.out)
      | (go_at_call 71;(with_reducible refine hte.mono ?_);rintro r w6 ⟨rfl,hT6⟩)
      | fail)
     go_returns
     rw [hR3.out]
     exact ⟨rfl,(hfrom.out _ _ _ hWZ (WdTo.trans hT5.out hT6)).q fun q e=> absurd e hk3⟩
theorem z7b (h:WdP B F W g s d x) (hB:B<=W.heap.size) (ho:wdOk s d n) (hn:n<=10000000) (c:Ch) (hgood:¬ c.bad s):
  Calls Tryz.prog 25 #[.pointer (some ⟨g,0,.none⟩),.agg c.cells.toArray] W fun e w'=> e= .returned (.int .i64 (d.act s c).2)/\WdTo B F W w' g s (d.act s c).1:=
 (z0t h hB ho hn c hgood).mono fun e w' h=> ⟨h.1,h.2.to⟩
theorem zkm (h:WdP B F W g s d x) (hB:B<=W.heap.size) (ho:wdOk s d n) (hn:n<=10000000) (c:Ch):
  Calls Tryz.prog 25 #[.pointer (some ⟨g,0,.none⟩),.agg c.cells.toArray] W fun e w'=> e= .returned (.int .i64 (d.act s c).2)/\WdTo B F W w' g s (d.act s c).1:=by
 by_cases hb:c.bad s
 ·have e:d.act s c=(d,1):=if_pos hb
  rw [e]
  exact yaq h hB ho c hb
 ·exact z7b h hB ho hn c hb
end

end

section

open Go.RowKit

attribute [local go_sem ↓] Go.wp_at_zero Go.wp_at_succ

theorem yfd:(Tryz.prog.info? 36).map (fun i=> (i.zero,i.size,i.bytes))=some (some (.pointer none),1,8):=by kernel_rfl
theorem z8e (n:Nat) (hn:n<=100):∀ u:World,(Instr.makeSlice 120 (.int .i64 (n:Int)) (.int .i64 (n:Int))).run Tryz.prog u= .ok (.slice (some ⟨u.heap.size,0,.none⟩) n n) (u.alloc (.cells (madeCells #[.pointer none] n) 36)):=fun u=> by
 obtain ⟨i0,hi,hz0,hz1,hz2⟩:=info_parts yfd
 have h:=run_make (P:=Tryz.prog) u 120 36 i0 (.pointer none) Tryz.underlying120 hi hz0 .i64 .i64 (n:Int) (n:Int) (by omega) (Int.le_refl _) (by rw [hz2];omega) (by omega)
 rw [Int.toNat_natCast] at h
 simpa [hz1,Value.cells] using h
theorem z6e (n:Nat):madeCells #[.pointer none] n=(List.replicate n (.pointer none)).toArray:=by
 apply Array.toList_inj.1
 rw [toList_madeCells_one]
theorem z0c {W Z:World} {s:Sh} {p b lb:Nat} (hm:mayB s.p s.c s.m=true) (hW:W.heap.size<=p/\W.heap.size<=b/\W.heap.size<=lb) (hlp:lb≠p/\lb≠b)
  (hw:zaq Z p b (zgj (zb6 s.p s.c s.m).toNat)) (hl:zaa Z lb (madeCells #[.pointer none] s.c.toNat) 36) (hZ:Below W.heap.size W Z):
  Below W.heap.size W (Z.alloc (.cells #[.int .i64 s.p,.int .i64 s.c,.int .i64 s.m,.pointer (some ⟨p,0,.none⟩),.slice (some ⟨lb,0,.none⟩) s.c.toNat s.c.toNat,.slice none 0 0,.slice none 0 0] 122))/\
  ∃ x,WdP W.heap.size (fun i=> W.heap.size<=i/\i < (Z.alloc (.cells #[.int .i64 s.p,.int .i64 s.c,.int .i64 s.m,.pointer (some ⟨p,0,.none⟩),.slice (some ⟨lb,0,.none⟩) s.c.toNat s.c.toNat,.slice none 0 0,.slice none 0 0] 122)).heap.size)
   (Z.alloc (.cells #[.int .i64 s.p,.int .i64 s.c,.int .i64 s.m,.pointer (some ⟨p,0,.none⟩),.slice (some ⟨lb,0,.none⟩) s.c.toNat s.c.toNat,.slice none 0 0,.slice none 0 0] 122)) Z.heap.size s (zde s) x:=by
 have hb:=zar.1 hm
 have hs:=hZ.size
 have hbZ:=(Below.refl Z.heap.size Z).alloc lr (.cells #[.int .i64 s.p,.int .i64 s.c,.int .i64 s.m,.pointer (some ⟨p,0,.none⟩),.slice (some ⟨lb,0,.none⟩) s.c.toNat s.c.toNat,.slice none 0 0,.slice none 0 0] 122)
 have htop:zaa (Z.alloc (.cells #[.int .i64 s.p,.int .i64 s.c,.int .i64 s.m,.pointer (some ⟨p,0,.none⟩),.slice (some ⟨lb,0,.none⟩) s.c.toNat s.c.toNat,.slice none 0 0,.slice none 0 0] 122)) Z.heap.size #[.int .i64 s.p,.int .i64 s.c,.int .i64 s.m,.pointer (some ⟨p,0,.none⟩),.slice (some ⟨lb,0,.none⟩) s.c.toNat s.c.toNat,.slice none 0 0,.slice none 0 0] 122:=heap_alloc_new _ _
 have hp:=hw.ltp
 have hbb:=hw.ltb
 have hll:=hl.lt
 have hne:=hw.ne
 have hlen:(zde s).l.length=s.c.toNat:=by simp [zde]
 have hno:∀ c,(zde s).l.getD c none=none:=fun c=> by
  unfold zde
  rw [List.getD_eq_getElem?_getD,List.getElem?_replicate]
  split <;> rfl
 have hsz:(Z.alloc (.cells #[.int .i64 s.p,.int .i64 s.c,.int .i64 s.m,.pointer (some ⟨p,0,.none⟩),.slice (some ⟨lb,0,.none⟩) s.c.toNat s.c.toNat,.slice none 0 0,.slice none 0 0] 122)).heap.size=Z.heap.size + 1:=by simp
 refine ⟨hZ.alloc (by omega) _,⟨p,b,lb,.slice none 0 0,.slice none 0 0,List.replicate s.c.toNat (.pointer none),fun _=> 0,fun i=> if i=Z.heap.size then 0 else if i=p then 1 else if i=b then 2 else 3,fun _ _=> False⟩,
  ?_,hw.below hbZ,?_,by simp [hlen],fun c hc=> ?_,fun c k hk=> ?_,⟨by simp [zde],.inl ⟨rfl,rfl⟩⟩,⟨by simp [zde],.inl ⟨rfl,rfl⟩⟩,fun i hi=> hi,⟨⟨hs,by omega⟩,if_pos rfl⟩,⟨⟨hW.1,by dsimp only;omega⟩,?_⟩,⟨⟨hW.2.1,by dsimp only;omega⟩,?_⟩,⟨⟨hW.2.2,by dsimp only;omega⟩,?_⟩,fun i e=> (by cases e),fun i e=> (by cases e),fun c i e=> e.elim⟩
 ·rw [hlen];exact htop
 ·have h1:=hl.below hbZ
  rw [z6e] at h1
  exact h1
 ·rw [hno]
  show (List.replicate s.c.toNat (Value.pointer none))[c]?=some (.pointer none)
  rw [List.getElem?_replicate,if_pos (by omega)]
 ·rw [hno] at hk;cases hk
 ·show (if p=Z.heap.size then 0 else if p=p then 1 else if p=b then 2 else 3)=1
  rw [if_neg (by omega),if_pos rfl]
 ·show (if b=Z.heap.size then 0 else if b=p then 1 else if b=b then 2 else 3)=2
  rw [if_neg (by omega),if_neg (fun e=> hne e.symm),if_pos rfl]
 ·show (if lb=Z.heap.size then 0 else if lb=p then 1 else if lb=b then 2 else 3)=3
  rw [if_neg (by omega),if_neg hlp.1,if_neg hlp.2]
theorem zzx (s:Sh) (W:World) (hm:mayB s.p s.c s.m=true):
  Calls Tryz.prog 47 #[.agg #[.int .i64 s.p,.int .i64 s.c,.int .i64 s.m]] W fun e w'=> Below W.heap.size W w'/\∃ g x,e= .returned (.tuple #[.pointer (some ⟨g,0,.none⟩),.int .i64 0])/\WdP W.heap.size (fun i=> W.heap.size<=i/\i < w'.heap.size) w' g s (zde s) x:=by
 have hmy:=fun Y=> zcc s.p s.c s.m Y
 rw [hm] at hmy
 have hb:=zar.1 hm
 have hT:=(zoy hm).2
 have hfin:=fun Z p b lb=> z0c (W:=W) (Z:=Z) (p:=p) (b:=b) (lb:=lb) hm
 obtain ⟨sp,sc,sm⟩:=s
 dsimp only at *
 obtain ⟨n,rfl⟩:∃ n:Nat,sc=(n:Int):=⟨sc.toNat,by omega⟩
 rw [Int.toNat_natCast] at hfin
 have htt:=fun Y=> zro sp (n:Int) sm Y
 obtain ⟨N,hN,hNN⟩:∃ N:Nat,zb6 sp (n:Int) sm=(N:Int)/\N<=2000:=⟨(zb6 sp (n:Int) sm).toNat,by omega,by omega⟩
 rw [hN] at htt hfin
 rw [Int.toNat_natCast] at hfin
 have hnw:=fun Y=> z7s N hNN Y
 have hmk:=z8e n (by omega)
 replace hmy:=hd' hmy
 replace htt:=hd' htt
 replace hnw:=hd' hnw
 replace hfin:=hd' hfin
 have hn0:(n:Int)<=12:=by omega
 have hH:=heap_alloc_new W (.cells #[.int .i64 sp,.int .i64 (n:Int),.int .i64 sm] 23)
 have t0:zaa (W.alloc (.cells #[.int .i64 sp,.int .i64 (n:Int),.int .i64 sm] 23)) W.heap.size #[.int .i64 sp,.int .i64 (n:Int),.int .i64 sm] 23:=hH
 have t1:=t0.alloc (.cells #[.int .i64 sp,.int .i64 (n:Int),.int .i64 sm] 23)
 have hWX:Below W.heap.size W ((W.alloc (.cells #[.int .i64 sp,.int .i64 (n:Int),.int .i64 sm] 23)).alloc (.cells #[.int .i64 sp,.int .i64 (n:Int),.int .i64 sm] 23)):=by go_grown
 clear hm hb hT hN hNN hH t0
 go_enter Tryz.func47,Tryz.ntmps47
 go_upto_region 3 with (first
  | (go_at_call 65;(with_reducible refine (hmy.out _).mono ?_);rintro r w1 ⟨rfl,hw1⟩;obtain rfl:=hw1.symm)
  | fail)
 generalize (W.alloc (.cells #[.int .i64 sp,.int .i64 (n:Int),.int .i64 sm] 23)).alloc (.cells #[.int .i64 sp,.int .i64 (n:Int),.int .i64 sm] 23)=X at *
 have hWs:=hWX.size
 obtain ⟨H,hH,hH'⟩:=hidv W.heap.size
 rw [<- hH'] at t1 ⊢
 clear hH'
 have lH:=t1.lt
 have hK:∀ Y,zaa Y H #[.int .i64 sp,.int .i64 (n:Int),.int .i64 sm] 23->Y.cell? ⟨H,0,.none⟩=some (.int .i64 sp)/\Y.cell? ⟨H,1,.none⟩=some (.int .i64 (n:Int))/\Y.cell? ⟨H,2,.none⟩=some (.int .i64 sm):=fun Y h=> ⟨h.cell 0,h.cell 1,h.cell 2⟩
 replace hK:=hd' hK
 go_region_held3 (fun Y=> Y.cell? ⟨H,0,.none⟩=some (.int .i64 sp)/\Y.cell? ⟨H,1,.none⟩=some (.int .i64 (n:Int))/\Y.cell? ⟨H,2,.none⟩=some (.int .i64 sm))
  (first | exact hK.out _ t1.drew | exact hK.out _ (t1.drew.alloc _) | exact hK.out _ ((t5.alloc _).alloc _) | exact hK.out _ (t5.alloc _) | exact hK.out _ t5 | exact hK.out _ (t4.alloc _) | exact hK.out _ t4 | fail)
  (first
   | (go_at_call 88;(with_reducible refine (htt.out _).mono ?_);rintro r w4 ⟨rfl,hb4⟩;have g4:Below X.heap.size X w4:=(by first | exact zab br.drew hb4 | exact zab (br.drew.alloc lr _) hb4);have t4:=t1.below g4;try (have hl4:zaa w4 X.heap.size (madeCells #[.pointer none] n) 36:=zaa.below (heap_alloc_new X.drew _) hb4))
   | (go_at_call 87;(with_reducible refine (hnw.out _).mono ?_);rintro r w5 ⟨p,b,rfl,hw5,hp5,hbb5,hb5⟩;have g5:Below X.heap.size X w5:=(by first | exact zab g4 hb5 | exact zab (g4.alloc g4.size _) hb5);have t5:=t1.below g5;(try (have hl5:zaa w5 X.heap.size (madeCells #[.pointer none] n) 36:=zaa.below hl4 hb5));(try (have hl5:zaa w5 w4.heap.size (madeCells #[.pointer none] n) 36:=zaa.below (heap_alloc_new w4 _) hb5)))
   | fail)
 ·have hs4:=g4.size
  have hlp:=hw5.ltp
  have hlb:=hw5.ltb
  have ha:=(Below.refl w5.heap.size w5).alloc lr (.cells (madeCells #[.pointer none] n) 36)
  obtain ⟨f1,x,f2⟩:=hfin.out (w5.alloc (.cells (madeCells #[.pointer none] n) 36)) p b w5.heap.size ⟨by omega,by omega,by omega⟩ ⟨by omega,by omega⟩ (hw5.below ha) (heap_alloc_new w5 _) (zab (zab hWX g5) ha)
  have hz:(w5.alloc (.cells (madeCells #[.pointer none] n) 36)).heap.size=w5.heap.size + 1:=by simp
  rw [hz] at f2
  go_wp2_with fail
  go_returns
  exact ⟨f1,_,x,rfl,f2⟩
 ·have hs4:=g4.size
  have hz:(w4.alloc (.cells (madeCells #[.pointer none] n) 36)).heap.size=w4.heap.size + 1:=by simp
  rw [hz] at hp5 hbb5
  obtain ⟨f1,x,f2⟩:=hfin.out w5 p b w4.heap.size ⟨by omega,by omega,by omega⟩ ⟨by omega,by omega⟩ hw5 hl5 (zab hWX g5)
  go_wp2_with fail
  go_returns
  exact ⟨f1,_,x,rfl,f2⟩
 ·have hl4s:=hl4.lt
  obtain ⟨f1,x,f2⟩:=hfin.out w5 p b X.heap.size ⟨by omega,by omega,by omega⟩ ⟨by omega,by omega⟩ hw5 hl5 (zab hWX g5)
  go_wp2_with fail
  go_returns
  exact ⟨f1,_,x,rfl,f2⟩
theorem z8i (s:Sh) (W:World) (hm:¬ mayB s.p s.c s.m=true):
  Calls Tryz.prog 47 #[.agg #[.int .i64 s.p,.int .i64 s.c,.int .i64 s.m]] W fun e w'=> Below W.heap.size W w'/\e= .returned (.tuple #[.pointer none,.int .i64 1]):=by
 have hmy:=fun Y=> zcc s.p s.c s.m Y
 have hm':mayB s.p s.c s.m=false:=by simpa using hm
 rw [hm'] at hmy
 obtain ⟨sp,sc,sm⟩:=s
 dsimp only at *
 replace hmy:=hd' hmy
 clear hm hm'
 go_enter Tryz.func47,Tryz.ntmps47
 go_wp2_with (first
  | (go_at_call 65;(with_reducible refine (hmy.out _).mono ?_);rintro r w1 ⟨rfl,hw1⟩;obtain rfl:=hw1.symm)
  | fail)
 go_returns
 exact ⟨by go_grown,rfl⟩
theorem zlg {P:Program} {w:World} {a:Addr} {m:Mode} (k:FloatKind) (x:Nat):(store a (.float k x) m).run P w=stored P w a (.float k x) m:=run_store P w a _ m rfl
attribute [local go_sem] zlg

theorem zru (xs:List Ev):∀ u ∈ xs.flatMap (fun e=> e.cells.toList),u.oneCell'=true:=fun u hu=> by
 obtain ⟨e,_,he⟩:=List.mem_flatMap.1 hu
 simp only [Ev.cells,List.mem_cons,List.not_mem_nil,or_false] at he
 rcases he with rfl | rfl | rfl | rfl | rfl | rfl | rfl | rfl <;> rfl
theorem zr8 (xs:List Acc):∀ u ∈ xs.flatMap (fun e=> e.cells.toList),u.oneCell'=true:=fun u hu=> by
 obtain ⟨e,_,he⟩:=List.mem_flatMap.1 hu
 simp only [Acc.cells,List.mem_cons,List.not_mem_nil,or_false] at he
 rcases he with rfl | rfl | rfl | rfl | rfl | rfl <;> rfl
theorem zvh (xs:List Ev) (v:Value) (w:World) (hr:RdS w 8 v xs.length (xs.flatMap fun e=> e.cells.toList)) (hlen:xs.length<=100000000):
  Calls Tryz.prog 73 #[v] w fun e w'=> ∃ v',e= .returned v'/\Below w.heap.size w w'/\w'.ownsRow w.heap.size 50 8 v' xs.length (xs.flatMap fun e=> e.cells.toList):=by
 obtain ⟨ao,cap,rfl,hcap,hcm,hl,hrow⟩:=id hr
 have heq:∀ W:World,(binOp .eql 47 (.slice ao xs.length cap) (.slice none 0 0)).run Tryz.prog W= .ok (.bool ao.isNone) W:=fun W=> Lib.run_eql_slice_nil W _ _ ao _ _ _ _ Tryz.underlying47
 rcases ao with _ | ad
 ·have hn:xs= []:=by
   rcases xs with _ | ⟨b,l⟩
   ·rfl
   ·obtain ⟨_,_,h,_⟩:=hrow (by simp);cases h
  subst hn
  replace heq:∀ W:World,(binOp .eql 47 (.slice none 0 cap) (.slice none 0 0)).run Tryz.prog W= .ok (.bool true) W:=heq
  show Calls Tryz.prog 73 #[.slice none 0 cap] w _
  go_enter Tryz.func73,Tryz.ntmps73
  go_wp2
  go_ret
  exact ⟨_,rfl,Below.refl _ _,⟨rfl,.inl ⟨rfl,rfl⟩⟩⟩
 ·obtain ⟨i0,hi0,hz0,hz1,hz2⟩:=info_parts zdb
  have own0:(w.alloc (.cells #[] 50)).ownsRow w.heap.size 50 8 (.slice (some ⟨w.heap.size,0,.none⟩) 0 0) 0 []:=World.ownsRow_lit w #[] 0 lr (Nat.zero_le _) rfl
  have hr1:RdS (w.alloc (.cells #[] 50)) 8 (.slice (some ad) xs.length cap) xs.length (xs.flatMap fun e=> e.cells.toList):=RdS.alloc hr _
  go_enter Tryz.func73,Tryz.ntmps73
  go_wp2_with (refine zay rfl (.tmp 5) (.tmp 6) 47 rfl w.heap.size 50 i0 _ 8 64 Tryz.underlying47 hi0 hz0 hz1 hz2 rfl (by omega) _ 0 [] rfl own0 _ xs.length _ rfl hr1 (zru xs) (by simp only [maxLen];omega) (by omega) (by simp) ?_;intro v1 w1 hown1 hgrow1 hat1;have hb1:=zaw ((Below.refl w.heap.size w).alloc lr _) own0 (by simp) hgrow1)
  go_ret
  rw [Nat.zero_add,List.nil_append] at hown1
  exact ⟨_,rfl,hb1,hown1⟩
theorem zt9 (xs:List Acc) (v:Value) (w:World) (hr:RdS w 6 v xs.length (xs.flatMap fun e=> e.cells.toList)) (hlen:xs.length<=100000000):
  Calls Tryz.prog 74 #[v] w fun e w'=> ∃ v',e= .returned v'/\Below w.heap.size w w'/\w'.ownsRow w.heap.size 59 6 v' xs.length (xs.flatMap fun e=> e.cells.toList):=by
 obtain ⟨ao,cap,rfl,hcap,hcm,hl,hrow⟩:=id hr
 have heq:∀ W:World,(binOp .eql 55 (.slice ao xs.length cap) (.slice none 0 0)).run Tryz.prog W= .ok (.bool ao.isNone) W:=fun W=> Lib.run_eql_slice_nil W _ _ ao _ _ _ _ Tryz.underlying55
 rcases ao with _ | ad
 ·have hn:xs= []:=by
   rcases xs with _ | ⟨b,l⟩
   ·rfl
   ·obtain ⟨_,_,h,_⟩:=hrow (by simp);cases h
  subst hn
  replace heq:∀ W:World,(binOp .eql 55 (.slice none 0 cap) (.slice none 0 0)).run Tryz.prog W= .ok (.bool true) W:=heq
  show Calls Tryz.prog 74 #[.slice none 0 cap] w _
  go_enter Tryz.func74,Tryz.ntmps74
  go_wp2
  go_ret
  exact ⟨_,rfl,Below.refl _ _,⟨rfl,.inl ⟨rfl,rfl⟩⟩⟩
 ·obtain ⟨i0,hi0,hz0,hz1,hz2⟩:=info_parts z8u
  have own0:(w.alloc (.cells #[] 59)).ownsRow w.heap.size 59 6 (.slice (some ⟨w.heap.size,0,.none⟩) 0 0) 0 []:=World.ownsRow_lit w #[] 0 lr (Nat.zero_le _) rfl
  have hr1:RdS (w.alloc (.cells #[] 59)) 6 (.slice (some ad) xs.length cap) xs.length (xs.flatMap fun e=> e.cells.toList):=RdS.alloc hr _
  go_enter Tryz.func74,Tryz.ntmps74
  go_wp2_with (refine zay rfl (.tmp 5) (.tmp 6) 55 rfl w.heap.size 59 i0 _ 6 48 Tryz.underlying55 hi0 hz0 hz1 hz2 rfl (by omega) _ 0 [] rfl own0 _ xs.length _ rfl hr1 (zr8 xs) (by simp only [maxLen];omega) (by omega) (by simp) ?_;intro v1 w1 hown1 hgrow1 hat1;have hb1:=zaw ((Below.refl w.heap.size w).alloc lr _) own0 (by simp) hgrow1)
  go_ret
  rw [Nat.zero_add,List.nil_append] at hown1
  exact ⟨_,rfl,hb1,hown1⟩
theorem zko {B:Nat} {F:Nat->Prop} {W:World} {g:Nat} {s:Sh} {d:Wd} {x:Wx} (h:WdP B F W g s d x) (hl:d.tr.length<=100000000):
  Calls Tryz.prog 26 #[.pointer (some ⟨g,0,.none⟩)] W fun e w'=> ∃ v',e= .returned v'/\Below W.heap.size W w'/\w'.ownsRow W.heap.size 50 8 v' d.tr.length (d.tr.flatMap fun e=> e.cells.toList):=by
 have hnil:∀ (p:Nat) (W:World),(binOp .eql 27 (.pointer (some ⟨p,0,.none⟩)) (.pointer none)).run Tryz.prog W= .ok (.bool false) W:=fun p W=> by kernel_rfl
 have c0:=ce x.tv (h.top.cell 5)
 have hc:=hd' (zvh d.tr x.tv W (RdS.zew h.tr) hl)
 clear h
 generalize x.tv=v at *
 go_enter Tryz.func26,Tryz.ntmps26
 go_wp2_with (go_at_call 73;refine hc.out.mono ?_;rintro e w1 ⟨v1,rfl,hb1,ho1⟩)
 go_ret
 exact ⟨_,rfl,hb1,ho1⟩
theorem zw1 {B:Nat} {F:Nat->Prop} {W:World} {g:Nat} {s:Sh} {d:Wd} {x:Wx} (h:WdP B F W g s d x) (hl:d.lg.length<=100000000):
  Calls Tryz.prog 30 #[.pointer (some ⟨g,0,.none⟩)] W fun e w'=> ∃ v',e= .returned v'/\Below W.heap.size W w'/\w'.ownsRow W.heap.size 59 6 v' d.lg.length (d.lg.flatMap fun e=> e.cells.toList):=by
 have hnil:∀ (p:Nat) (W:World),(binOp .eql 27 (.pointer (some ⟨p,0,.none⟩)) (.pointer none)).run Tryz.prog W= .ok (.bool false) W:=fun p W=> by kernel_rfl
 have c0:=ce x.sv (h.top.cell 6)
 have hc:=hd' (zt9 d.lg x.sv W (RdS.zew h.lg) hl)
 clear h
 generalize x.sv=v at *
 go_enter Tryz.func30,Tryz.ntmps30
 go_wp2_with (go_at_call 74;refine hc.out.mono ?_;rintro e w1 ⟨v1,rfl,hb1,ho1⟩)
 go_ret
 exact ⟨_,rfl,hb1,ho1⟩
theorem ycw {B:Nat} {F:Nat->Prop} {W:World} {g:Nat} {s:Sh} {d:Wd} {x:Wx} (h:WdP B F W g s d x):
  Calls Tryz.prog 35 #[.pointer (some ⟨g,0,.none⟩)] W fun e w'=> ∃ v',e= .returned v'/\Below W.heap.size W w'/\w'.ownsRow W.heap.size 57 1 v' d.m.ws.length (d.m.ws.map (Value.int .u64)):=by
 have hnil:∀ (p:Nat) (W:World),(binOp .eql 27 (.pointer (some ⟨p,0,.none⟩)) (.pointer none)).run Tryz.prog W= .ok (.bool false) W:=fun p W=> by kernel_rfl
 have c0:=ce (.pointer (some ⟨x.p,0,.none⟩)) (h.top.cell 3)
 have hc:=hd' (z8c x.p x.b d.m W h.wds)
 have lg:=h.top.lt
 clear h
 go_enter Tryz.func35,Tryz.ntmps35
 go_wp2_with (go_at_call 78;refine hc.out.mono ?_;rintro e w1 ⟨v1,rfl,hb1,ho1⟩)
 go_ret
 exact ⟨_,rfl,hb1,ho1⟩
theorem zva {B:Nat} {F:Nat->Prop} {W:World} {g:Nat} {s:Sh} {d:Wd} {x:Wx} (h:WdP B F W g s d x) (c:Int) (hc:0<=c/\c.toNat < d.l.length) (hl:d.l.length<=100):
  Calls Tryz.prog 21 #[.pointer (some ⟨g,0,.none⟩),.int .i64 c] W fun e w'=> e= .returned (ptrK (d.kl c) (x.qs c.toNat))/\Below W.heap.size W w':=by
 have hnil:∀ (p:Nat) (W:World),(binOp .eql 27 (.pointer (some ⟨p,0,.none⟩)) (.pointer none)).run Tryz.prog W= .ok (.bool false) W:=fun p W=> by kernel_rfl
 have c4:=ce (.slice (some ⟨x.lb,0,.none⟩) d.l.length d.l.length) (h.top.cell 4)
 have lg:=h.top.lt
 have zl:=h.ptr hc.1 hc.2
 have ll:=h.lst.lt
 have h0:=hc.1
 have h1:c < (d.l.length:Int):=by omega
 have h2:¬ c < 0:=by omega
 have h3:¬ (d.l.length:Int)<=c:=by omega
 clear h hc
 generalize ptrK (d.kl c) (x.qs c.toNat)=pv at *
 go_enter Tryz.func21,Tryz.ntmps21
 go_wp2_with fail
 go_returns
 exact ⟨rfl,by go_grown⟩
theorem znm (c:Ch) (W:World):Calls Tryz.prog 29 #[.agg c.cells.toArray] W fun e w'=> e= .returned (.agg c.cells.toArray)/\Below W.heap.size W w':=by
 obtain ⟨ck,cc,co,ca,cn,cb⟩:=c
 show Calls Tryz.prog 29 #[.agg #[.int .i64 ck,.int .i64 cc,.int .i64 co,.int .i64 ca,.int .i64 cn,.float .f64 cb]] W fun e w'=> e= .returned (.agg #[.int .i64 ck,.int .i64 cc,.int .i64 co,.int .i64 ca,.int .i64 cn,.float .f64 cb])/\Below W.heap.size W w'
 go_enter Tryz.func29,Tryz.ntmps29
 go_wp2_with fail
 have hz:(W.alloc (.cells #[.int .i64 ck,.int .i64 cc,.int .i64 co,.int .i64 ca,.int .i64 cn,.float .f64 cb] 54)).heap.size=W.heap.size + 1:=by simp
 have t:zaa ((W.alloc (.cells #[.int .i64 ck,.int .i64 cc,.int .i64 co,.int .i64 ca,.int .i64 cn,.float .f64 cb] 54)).alloc (.cells #[.int .i64 ck,.int .i64 cc,.int .i64 co,.int .i64 ca,.int .i64 cn,.float .f64 cb] 46)) (W.heap.size + 1) #[.int .i64 ck,.int .i64 cc,.int .i64 co,.int .i64 ca,.int .i64 cn,.float .f64 cb] 46:=by
  have h:=heap_alloc_new (W.alloc (.cells #[.int .i64 ck,.int .i64 cc,.int .i64 co,.int .i64 ca,.int .i64 cn,.float .f64 cb] 54)) (.cells #[.int .i64 ck,.int .i64 cc,.int .i64 co,.int .i64 ca,.int .i64 cn,.float .f64 cb] 46)
  rw [hz] at h
  exact h
 have hb:Below W.heap.size W ((W.alloc (.cells #[.int .i64 ck,.int .i64 cc,.int .i64 co,.int .i64 ca,.int .i64 cn,.float .f64 cb] 54)).alloc (.cells #[.int .i64 ck,.int .i64 cc,.int .i64 co,.int .i64 ca,.int .i64 cn,.float .f64 cb] 46)):=by go_grown
 generalize (W.alloc (.cells #[.int .i64 ck,.int .i64 cc,.int .i64 co,.int .i64 ca,.int .i64 cn,.float .f64 cb] 54)).alloc (.cells #[.int .i64 ck,.int .i64 cc,.int .i64 co,.int .i64 ca,.int .i64 cn,.float .f64 cb] 46)=X at *
 generalize W.heap.size + 1=H at *
 obtain ⟨r0,r1,r2,r3,r4⟩:=ci5 ck cc co ca cn t.cell
 have r5:=ce (.float .f64 cb) (t.cell 5)
 exact bodyPost_ret (v:= .agg #[.int .i64 ck,.int .i64 cc,.int .i64 co,.int .i64 ca,.int .i64 cn,.float .f64 cb]) (by simp [results,Tryz.results29,go_sem,r0,r1,r2,r3,r4,r5]) rfl ⟨rfl,hb⟩
end

end Go.Proofs.YtampacmmhhilaaaGreat

/- A world in memory: a choice is done. -/
import Derived.Test.YtampacmmhhilaaaGreatZWldY

set_option linter.all false
namespace Go.Proofs.YtampacmmhhilaaaGreat

open Go.RowKit

attribute [local go_sem ↓] Go.wp_at_zero Go.wp_at_succ

theorem chmay_any (kd cl a b d:Int) (bi:Nat) (w:World):Calls Tryz.prog 66 #[.agg #[.int .i64 kd, .int .i64 cl, .int .i64 a, .int .i64 b, .int .i64 d, .float .f64 bi]] w fun e w'=> e= .returned (.bool (decide (1≤kd∧kd≤4)))∧Below w.heap.size w w':=by
 by_cases h1:1≤kd
 ·by_cases h2:kd≤4
  ·rw [decide_eq_true (And.intro h1 h2)]
   have d1:decide (kd≥1)=true:=decide_eq_true h1
   have d2:decide (kd≤4)=true:=decide_eq_true h2
   go_enter Tryz.func66,Tryz.ntmps66
   go_wp2
   go_ret
   exact ⟨rfl,(Below.refl _ _).alloc (Nat.le_refl _) _⟩
  ·rw [decide_eq_false (fun h:1≤kd∧kd≤4=> h2 h.2)]
   have d1:decide (kd≥1)=true:=decide_eq_true h1
   have d2:decide (kd≤4)=false:=decide_eq_false h2
   go_enter Tryz.func66,Tryz.ntmps66
   go_wp2
   go_ret
   exact ⟨rfl,(Below.refl _ _).alloc (Nat.le_refl _) _⟩
 ·rw [decide_eq_false (fun h:1≤kd∧kd≤4=> h1 h.1)]
  have d1:decide (kd≥1)=false:=decide_eq_false h1
  go_enter Tryz.func66,Tryz.ntmps66
  go_wp2
  go_ret
  exact ⟨rfl,(Below.refl _ _).alloc (Nat.le_refl _) _⟩
section

variable {B:Nat} {F:Nat→Prop} {W:World} {g:Nat} {s:Sh} {d:Wd} {x:Wx} {n:Nat}

/-- A client is asked; the events that it hands back are put to the history. -/
theorem wask_to (h:WdP B F W g s d x) (hB:B≤W.heap.size) (ho:wdOk s d n) (c:Int) (k:Kl) (hk:d.kl c=some k) (o:Op3):
  Calls Tryz.prog 70 #[.pointer (some ⟨x.qs c.toNat,0, .none⟩), .agg #[.int .i64 o.k, .int .i64 o.a, .int .i64 o.n]] W fun r w'=> ∃ v x',r= .returned (.tuple #[v, .int .i64 (k.invoke s o).2.2])∧RdE w' v (k.invoke s o).2.1∧
   WdP B (grow F W w') w' g s { d with l:=d.l.set c.toNat (some (k.invoke s o).1) } x'∧Only F W w':=by
 obtain ⟨hok,hcc,hcr⟩:=ho.kl c k hk
 have hcl:=(Wd.kl_lt hk).2
 have hkD:d.l.getD c.toNat none=some k:=by
  have h1:=hk
  unfold Wd.kl at h1
  rw [if_pos hcr.1] at h1;exact h1
 have hcw:=h.cw (n:=0) hkD hok ho.fi
 refine (cw_ask o hcw hB).mono fun r w' hS=> ?_
 obtain ⟨v,h1,h2⟩:=hS.ret
 have h3:=h.stepped hB hkD hcl hS.cw.kl hS.cw.wd (Only.weak hS.only fun i hi=> .inl hi)
 exact ⟨v,_,h1,rdE_own h2,h3.1,h3.2⟩
set_option maxRecDepth 100000 in
set_option maxHeartbeats 4000000 in
theorem wdo_bad (h:WdP B F W g s d x) (hB:B≤W.heap.size) (ho:wdOk s d n) (c:Ch) (hbad:c.bad s):
  Calls Tryz.prog 25 #[.pointer (some ⟨g,0, .none⟩), .agg c.cells.toArray] W fun e w'=> e= .returned (.int .i64 1)∧WdTo B F W w' g s d:=by
 have hbd:=ho.fi.bd
 have hm:=ho.fi.may
 obtain ⟨ck,cc,co,ca,cn,cb⟩:=c
 show Calls Tryz.prog 25 #[.pointer (some ⟨g,0, .none⟩), .agg #[.int .i64 ck, .int .i64 cc, .int .i64 co, .int .i64 ca, .int .i64 cn, .float .f64 cb]] W _
 have hb0:=(Below.refl W.heap.size W).alloc (Nat.le_refl _) (.cells #[.int .i64 ck, .int .i64 cc, .int .i64 co, .int .i64 ca, .int .i64 cn, .float .f64 cb] 46)
 have t0:RowAt (W.alloc (.cells #[.int .i64 ck, .int .i64 cc, .int .i64 co, .int .i64 ca, .int .i64 cn, .float .f64 cb] 46)) W.heap.size #[.int .i64 ck, .int .i64 cc, .int .i64 co, .int .i64 ca, .int .i64 cn, .float .f64 cb] 46:=heap_alloc_new _ _
 have hmy:=fun Y=> chmay_any ck cc co ca cn cb Y
 have hcp:=fun Y=> planStatus_any s.p s.c s.m cc Y
 have hnil:∀ (p:Nat) (W:World),(binOp .eql 27 (.pointer (some ⟨p,0, .none⟩)) (.pointer none)).run Tryz.prog W= .ok (.bool false) W:=fun p W=> by kernel_rfl
 have hstay:=fun W1 (hb:Below W.heap.size W W1)=> WdTo.start (W1:=W1) h hB hb
 have g0:(W.alloc (.cells #[.int .i64 ck, .int .i64 cc, .int .i64 co, .int .i64 ca, .int .i64 cn, .float .f64 cb] 46)).cell? ⟨g,0, .none⟩=some (.int .i64 s.p):=(h.below hb0).top.cell 0
 have g1:(W.alloc (.cells #[.int .i64 ck, .int .i64 cc, .int .i64 co, .int .i64 ca, .int .i64 cn, .float .f64 cb] 46)).cell? ⟨g,1, .none⟩=some (.int .i64 s.c):=(h.below hb0).top.cell 1
 have g2:(W.alloc (.cells #[.int .i64 ck, .int .i64 cc, .int .i64 co, .int .i64 ca, .int .i64 cn, .float .f64 cb] 46)).cell? ⟨g,2, .none⟩=some (.int .i64 s.m):=(h.below hb0).top.cell 2
 have lgX:=(h.below hb0).top.lt
 replace hstay:=Lib.hid hstay
 unfold Ch.bad at hbad
 dsimp only at hbad
 clear h
 by_cases hk:1≤ck∧ck≤4
 ·have hsx:statusIx s.p s.c s.m cc < 0:=by
   rcases Int.lt_or_le (statusIx s.p s.c s.m cc) 0 with e | e
   ·exact e
   ·have:=(statusIx_ok e).2;omega
  rw [decide_eq_true hk] at hmy
  generalize statusIx s.p s.c s.m cc=sx at *
  replace hmy:=Lib.hid hmy
  replace hcp:=Lib.hid hcp
  clear hbad hk
  go_enter Tryz.func25,Tryz.ntmps25
  go_upto_region 1 with fail
  generalize W.alloc (.cells #[.int .i64 ck, .int .i64 cc, .int .i64 co, .int .i64 ca, .int .i64 cn, .float .f64 cb] 46)=X at *
  obtain ⟨H,hH,hH'⟩:∃ H,Hid (H=W.heap.size)∧H=W.heap.size:=⟨_,Lib.hid rfl,rfl⟩
  rw [← hH'] at t0 ⊢
  try rw [← hH'] at hFH hHl
  clear hH'
  replace hb0:=Lib.hid hb0
  have lH:=t0.lt
  have x0:X.cell? ⟨H,0, .none⟩=some (.int .i64 ck):=t0.cell 0
  have x1:X.cell? ⟨H,1, .none⟩=some (.int .i64 cc):=t0.cell 1
  have x2:X.cell? ⟨H,2, .none⟩=some (.int .i64 co):=t0.cell 2
  have x3:X.cell? ⟨H,3, .none⟩=some (.int .i64 ca):=t0.cell 3
  have x4:X.cell? ⟨H,4, .none⟩=some (.int .i64 cn):=t0.cell 4
  have x5:X.cell? ⟨H,5, .none⟩=some (.float .f64 cb):=t0.cell 5
  refine wp_region_ext (by kernel_rfl) (by kernel_rfl) ?_
  repeat (go_big_quiet_step ((first | (go_at_call 66;exact ext_of (hmy.out _)) | (go_at_call 67;exact ext_of (hcp.out _)) | fail)))
  refine wpQuiet_nil ?_
  rintro _ ⟨e',rfl⟩
  have hX:=e'.below
  generalize e'.w=Y at *
  clear x0 x1 x2 x3 x4 x5
  go_wp2_with fail
  go_returns
  exact ⟨rfl,hstay.out _ (belowTrans hb0.out hX)⟩
 ·rw [decide_eq_false hk] at hmy
  replace hmy:=Lib.hid hmy
  replace hcp:=Lib.hid hcp
  clear hbad hk
  go_enter Tryz.func25,Tryz.ntmps25
  go_upto_region 1 with fail
  generalize W.alloc (.cells #[.int .i64 ck, .int .i64 cc, .int .i64 co, .int .i64 ca, .int .i64 cn, .float .f64 cb] 46)=X at *
  obtain ⟨H,hH,hH'⟩:∃ H,Hid (H=W.heap.size)∧H=W.heap.size:=⟨_,Lib.hid rfl,rfl⟩
  rw [← hH'] at t0 ⊢
  try rw [← hH'] at hFH hHl
  clear hH'
  replace hb0:=Lib.hid hb0
  have lH:=t0.lt
  have x0:X.cell? ⟨H,0, .none⟩=some (.int .i64 ck):=t0.cell 0
  have x1:X.cell? ⟨H,1, .none⟩=some (.int .i64 cc):=t0.cell 1
  have x2:X.cell? ⟨H,2, .none⟩=some (.int .i64 co):=t0.cell 2
  have x3:X.cell? ⟨H,3, .none⟩=some (.int .i64 ca):=t0.cell 3
  have x4:X.cell? ⟨H,4, .none⟩=some (.int .i64 cn):=t0.cell 4
  have x5:X.cell? ⟨H,5, .none⟩=some (.float .f64 cb):=t0.cell 5
  refine wp_region_ext (by kernel_rfl) (by kernel_rfl) ?_
  repeat (go_big_quiet_step ((first | (go_at_call 66;exact ext_of (hmy.out _)) | (go_at_call 67;exact ext_of (hcp.out _)) | fail)))
  refine wpQuiet_nil ?_
  rintro _ ⟨e',rfl⟩
  have hX:=e'.below
  generalize e'.w=Y at *
  clear x0 x1 x2 x3 x4 x5
  go_wp2_with fail
  go_returns
  exact ⟨rfl,hstay.out _ (belowTrans hb0.out hX)⟩
set_option maxRecDepth 100000 in
set_option maxHeartbeats 8000000 in
theorem wdo_good (h:WdP B F W g s d x) (hB:B≤W.heap.size) (ho:wdOk s d n) (hn:n≤10000000) (c:Ch) (hgood:¬ c.bad s):
  Calls Tryz.prog 25 #[.pointer (some ⟨g,0, .none⟩), .agg c.cells.toArray] W fun e w'=> e= .returned (.int .i64 (d.act s c).2)∧WdTo B F W w' g s (d.act s c).1:=by
 have hbd:=ho.fi.bd
 have hm:=ho.fi.may
 obtain ⟨ck,cc,co,ca,cn,cb⟩:=c
 show Calls Tryz.prog 25 #[.pointer (some ⟨g,0, .none⟩), .agg #[.int .i64 ck, .int .i64 cc, .int .i64 co, .int .i64 ca, .int .i64 cn, .float .f64 cb]] W _
 have hb0:=(Below.refl W.heap.size W).alloc (Nat.le_refl _) (.cells #[.int .i64 ck, .int .i64 cc, .int .i64 co, .int .i64 ca, .int .i64 cn, .float .f64 cb] 46)
 have t0:RowAt (W.alloc (.cells #[.int .i64 ck, .int .i64 cc, .int .i64 co, .int .i64 ca, .int .i64 cn, .float .f64 cb] 46)) W.heap.size #[.int .i64 ck, .int .i64 cc, .int .i64 co, .int .i64 ca, .int .i64 cn, .float .f64 cb] 46:=heap_alloc_new _ _
 have hmy:=fun Y=> chmay_any ck cc co ca cn cb Y
 have hcp:=fun Y=> planStatus_any s.p s.c s.m cc Y
 have hnil:∀ (p:Nat) (W:World),(binOp .eql 27 (.pointer (some ⟨p,0, .none⟩)) (.pointer none)).run Tryz.prog W= .ok (.bool false) W:=fun p W=> by kernel_rfl
 have hnk:∀ (p:Nat) (W:World),(binOp .eql 36 (.pointer (some ⟨p,0, .none⟩)) (.pointer none)).run Tryz.prog W= .ok (.bool false) W:=fun p W=> by kernel_rfl
 have hkc:1≤ck∧ck≤4∧0≤cc∧cc < s.c:=by
  unfold Ch.bad at hgood
  dsimp only at hgood
  omega
 have hc:0≤cc∧cc < s.c:=⟨hkc.2.2.1,hkc.2.2.2⟩
 have hc0:¬ cc < 0:=by omega
 have hc1:=hc.1
 rw [status_in hm hc] at hcp
 rw [decide_eq_true (And.intro hkc.1 hkc.2.1)] at hmy
 have hi:cc.toNat < d.l.length:=by rw [ho.len];omega
 have hic:cc < (d.l.length:Int):=by omega
 have htr:=ho.tr
 have hact:d.act s ⟨ck,cc,co,ca,cn,cb⟩=if ck=1 then d.begin s ⟨ck,cc,co,ca,cn,cb⟩ else match d.kl cc with
  | none=> (d,2)
  | some k=> if ck=3 then d.step s cc k else if ck=2 then d.ask s ⟨ck,cc,co,ca,cn,cb⟩ k else d.kill cc:=if_neg hgood
 have hstart:∀ Z,Below W.heap.size W Z→Calls Tryz.prog 68 #[.pointer (some ⟨g,0, .none⟩), .agg #[.int .i64 ck, .int .i64 cc, .int .i64 co, .int .i64 ca, .int .i64 cn, .float .f64 cb]] Z fun e w'=> e= .returned (.int .i64 (d.begin s ⟨ck,cc,co,ca,cn,cb⟩).2)∧WdTo B F Z w' g s (d.begin s ⟨ck,cc,co,ca,cn,cb⟩).1:=fun Z hb=> wstart_any (h.below hb) (by have:=hb.size;omega) ho hn ⟨ck,cc,co,ca,cn,cb⟩ hc
 have hstep:=fun k (hk:d.kl cc=some k) Z (hb:Below W.heap.size W Z)=> wstep_any (h.below hb) (by have:=hb.size;omega) ho hn cc k hk
 have hask:=fun k (hk:d.kl cc=some k) Z (hb:Below W.heap.size W Z)=> wask_to (h.below hb) (by have:=hb.size;omega) ho cc k hk ⟨co,ca,cn⟩
 have hfrom:=fun W1 W2 d2 (hb:Below W.heap.size W W1)=> WdTo.from (W1:=W1) (W2:=W2) (d2:=d2) h hB hb
 have hstay:=fun W1 (hb:Below W.heap.size W W1)=> WdTo.start (W1:=W1) h hB hb
 have hss:=fun F' Y L x' (hY:WdP B F' Y g s { d with l:=L } x')=> wsetstat_any hY ho.fi cc 2 hc
 have hplace:=fun Z Y (hb:Below W.heap.size W Z) (hb2:Below Z.heap.size Z Y)=> WdP.place (W:=Z) (W':=Y) (c:=cc.toNat) (q:=0) (o:=none) (Fq:=fun _=> False) (h.below hb) (by have:=hb.size;omega) hi hb2 (fun k e=> by cases e) (fun i e=> e.elim) rfl
 have hFH:¬ F W.heap.size:=fun e=> by have:=(h.lt _ e).2;omega
 have hHl:W.heap.size≠x.lb:=fun e=> by have:=(h.lt _ h.fl.1).2;omega
 have hgl:g≠x.lb:=fun e=> by have:=h.fg.2;have:=h.fl.2;rw [e] at *;omega
 have hKw:∀ Y:World,Below W.heap.size W Y→RowAt Y g (wdCells s x.p x.lb d.l.length x.tv x.sv) 122∧Y.cell? ⟨x.lb,cc.toNat, .none⟩=some (ptrK (d.kl cc) (x.qs cc.toNat))∧(∀ i,Y.frozen? ⟨x.lb,i, .none⟩=false)∧x.lb < Y.heap.size:=fun Y hb=> ⟨(h.below hb).top,(h.below hb).ptr hc.1 hi,rowFree (h.below hb).lst,(h.below hb).lst.lt⟩
 have k0:=hKw _ hb0
 have g0:(W.alloc (.cells #[.int .i64 ck, .int .i64 cc, .int .i64 co, .int .i64 ca, .int .i64 cn, .float .f64 cb] 46)).cell? ⟨g,0, .none⟩=some (.int .i64 s.p):=k0.1.cell 0
 have g1:(W.alloc (.cells #[.int .i64 ck, .int .i64 cc, .int .i64 co, .int .i64 ca, .int .i64 cn, .float .f64 cb] 46)).cell? ⟨g,1, .none⟩=some (.int .i64 s.c):=k0.1.cell 1
 have g2:(W.alloc (.cells #[.int .i64 ck, .int .i64 cc, .int .i64 co, .int .i64 ca, .int .i64 cn, .float .f64 cb] 46)).cell? ⟨g,2, .none⟩=some (.int .i64 s.m):=k0.1.cell 2
 have lgX:=k0.1.lt
 obtain ⟨R,hR,hR'⟩:∃ R:Wd × Int,Hid (R=d.act s ⟨ck,cc,co,ca,cn,cb⟩)∧R=d.act s ⟨ck,cc,co,ca,cn,cb⟩:=⟨_,Lib.hid rfl,rfl⟩
 rw [← hR']
 clear hR' k0 h
 replace hR:=Lib.hid (hR.out.trans hact)
 replace hstart:=Lib.hid hstart
 replace hstep:=Lib.hid hstep
 replace hask:=Lib.hid hask
 replace hfrom:=Lib.hid hfrom
 replace hstay:=Lib.hid hstay
 replace hss:=Lib.hid hss
 replace hplace:=Lib.hid hplace
 replace hKw:=Lib.hid hKw
 replace hmy:=Lib.hid hmy
 replace hcp:=Lib.hid hcp
 replace htr:=Lib.hid htr
 replace hgood:=Lib.hid hgood
 clear hact
 go_enter Tryz.func25,Tryz.ntmps25
 go_upto_region 1 with fail
 generalize W.alloc (.cells #[.int .i64 ck, .int .i64 cc, .int .i64 co, .int .i64 ca, .int .i64 cn, .float .f64 cb] 46)=X at *
 obtain ⟨H,hH,hH'⟩:∃ H,Hid (H=W.heap.size)∧H=W.heap.size:=⟨_,Lib.hid rfl,rfl⟩
 rw [← hH'] at t0 ⊢
 try rw [← hH'] at hFH hHl
 clear hH'
 replace hb0:=Lib.hid hb0
 have lH:=t0.lt
 have x0:X.cell? ⟨H,0, .none⟩=some (.int .i64 ck):=t0.cell 0
 have x1:X.cell? ⟨H,1, .none⟩=some (.int .i64 cc):=t0.cell 1
 have x2:X.cell? ⟨H,2, .none⟩=some (.int .i64 co):=t0.cell 2
 have x3:X.cell? ⟨H,3, .none⟩=some (.int .i64 ca):=t0.cell 3
 have x4:X.cell? ⟨H,4, .none⟩=some (.int .i64 cn):=t0.cell 4
 have x5:X.cell? ⟨H,5, .none⟩=some (.float .f64 cb):=t0.cell 5
 refine wp_region_ext (by kernel_rfl) (by kernel_rfl) ?_
 repeat (go_big_quiet_step ((first | (go_at_call 66;exact ext_of (hmy.out _)) | (go_at_call 67;exact ext_of (hcp.out _)) | fail)))
 refine wpQuiet_nil ?_
 rintro _ ⟨e',rfl⟩
 have hX:=e'.below
 generalize e'.w=Y at *
 clear x0 x1 x2 x3 x4 x5
 have hWY:=belowTrans hb0.out hX
 have tY:=t0.below hX
 have kY:=hKw.out _ hWY
 clear t0 hb0 hcp hmy g0 g1 g2 lgX lH
 have hYs:=hX.size
 have hHY:H < Y.heap.size:=tY.lt
 have lgY:=kY.1.lt
 have y0:Y.cell? ⟨H,0, .none⟩=some (.int .i64 ck):=tY.cell 0
 have y1:Y.cell? ⟨H,1, .none⟩=some (.int .i64 cc):=tY.cell 1
 have y2:Y.cell? ⟨H,2, .none⟩=some (.int .i64 co):=tY.cell 2
 have y3:Y.cell? ⟨H,3, .none⟩=some (.int .i64 ca):=tY.cell 3
 have y4:Y.cell? ⟨H,4, .none⟩=some (.int .i64 cn):=tY.cell 4
 have y5:Y.cell? ⟨H,5, .none⟩=some (.float .f64 cb):=tY.cell 5
 have g4:Y.cell? ⟨g,4, .none⟩=some (.slice (some ⟨x.lb,0, .none⟩) d.l.length d.l.length):=kY.1.cell 4
 have yl:=kY.2.1
 have lly:=kY.2.2.2
 clear kY hX
 go_upto_region 3 with fail
 go_quiet (fail)
 have hYZ:=below_drewN (Below.refl Y.heap.size Y) nq
 have tZ:RowAt (Y.drewN nq) H _ _:=tY.drewN nq
 generalize Y.drewN nq=Z at *
 have hWZ:=belowTrans hWY hYZ
 have kZ:=hKw.out _ hWZ
 have lHZ:=tZ.lt
 have lgZ:=kZ.1.lt
 have z0:Z.cell? ⟨H,0, .none⟩=some (.int .i64 ck):=tZ.cell 0
 have z1:Z.cell? ⟨H,1, .none⟩=some (.int .i64 cc):=tZ.cell 1
 have z2:Z.cell? ⟨H,2, .none⟩=some (.int .i64 co):=tZ.cell 2
 have z3:Z.cell? ⟨H,3, .none⟩=some (.int .i64 ca):=tZ.cell 3
 have z4:Z.cell? ⟨H,4, .none⟩=some (.int .i64 cn):=tZ.cell 4
 have z5:Z.cell? ⟨H,5, .none⟩=some (.float .f64 cb):=tZ.cell 5
 have gz4:Z.cell? ⟨g,4, .none⟩=some (.slice (some ⟨x.lb,0, .none⟩) d.l.length d.l.length):=kZ.1.cell 4
 have zl:=kZ.2.1
 have zf:=kZ.2.2.1
 have llz:=kZ.2.2.2
 clear y0 y1 y2 y3 y4 y5 g4 yl lly tY lgY hHY kZ hYs hYZ hWY
 obtain ⟨pv,hpv,hpv'⟩:∃ pv,Hid (pv=ptrK (d.kl cc) (x.qs cc.toNat))∧pv=ptrK (d.kl cc) (x.qs cc.toNat):=⟨_,Lib.hid rfl,rfl⟩
 rw [← hpv'] at zl ⊢
 clear hpv'
 by_cases hk1:ck=1
 ·have hR2:=Lib.hid (hR.out.trans (if_pos hk1))
  clear hR hkc
  subst hk1
  go_wp2_with (first
   | (go_at_call 68;(with_reducible refine (hstart.out _ hWZ).mono ?_);rintro r w5 ⟨rfl,hT⟩)
   | fail)
  go_returns
  rw [hR2.out]
  exact ⟨rfl,hfrom.out _ _ _ hWZ hT⟩
 ·have b1:(ck==1)=false:=by rw [beq_eq_false_iff_ne];exact hk1
  rcases hkl:d.kl cc with _ | k
  ·have hR2:=Lib.hid (hR.out.trans ((if_neg hk1).trans (by rw [hkl])):R=(d,2))
   obtain rfl:pv= .pointer none:=by rw [hpv.out,hkl];rfl
   clear hR hkc
   go_wp2_with fail
   go_returns
   rw [hR2.out]
   exact ⟨rfl,hstay.out _ hWZ⟩
  ·have hR2:=Lib.hid (hR.out.trans ((if_neg hk1).trans (by rw [hkl])):R=if ck=3 then d.step s cc k else if ck=2 then d.ask s ⟨ck,cc,co,ca,cn,cb⟩ k else d.kill cc)
   obtain rfl:pv= .pointer (some ⟨x.qs cc.toNat,0, .none⟩):=by rw [hpv.out,hkl];rfl
   clear hR
   by_cases hk3:ck=3
   ·have hR3:=Lib.hid (hR2.out.trans (if_pos hk3))
    have hsp:=Lib.hid (hstep.out k hkl Z hWZ)
    clear hR2 hkc
    subst hk3
    go_wp2_with (first
     | (go_at_call 69;(with_reducible refine hsp.out.mono ?_);rintro r w5 ⟨rfl,hT⟩)
     | fail)
    go_returns
    rw [hR3.out]
    exact ⟨rfl,hfrom.out _ _ _ hWZ hT⟩
   ·have b3:(ck==3)=false:=by rw [beq_eq_false_iff_ne];exact hk3
    by_cases hk2:ck=2
    ·have hR3:=Lib.hid (hR2.out.trans ((if_neg hk3).trans (if_pos hk2)))
     have hak:=Lib.hid (hask.out k hkl Z hWZ)
     have hle:=Kl.invoke_len s k ⟨co,ca,cn⟩
     have hR4:d.ask s ⟨ck,cc,co,ca,cn,cb⟩ k=(⟨d.m,d.l.set cc.toNat (some (k.invoke s ⟨co,ca,cn⟩).1),d.tr ++ (k.invoke s ⟨co,ca,cn⟩).2.1,d.lg⟩,(k.invoke s ⟨co,ca,cn⟩).2.2):=rfl
     replace hR3:=Lib.hid (hR3.out.trans hR4)
     clear hR2 hkc hR4
     generalize (k.invoke s ⟨co,ca,cn⟩).1=k' at *
     generalize (k.invoke s ⟨co,ca,cn⟩).2.1=es at *
     generalize (k.invoke s ⟨co,ca,cn⟩).2.2=er at *
     subst hk2
     have hBZ:B≤Z.heap.size:=by have:=hWZ.size;omega
     go_wp2_with (first
      | (go_at_call 70;(with_reducible refine hak.out.mono ?_);rintro r w5 ⟨v,x5,rfl,hrd,hx5,ho5⟩;have hs5:=ho5.size;have hB5:B≤w5.heap.size:=(by omega);have htl:=Lib.hid (wtell_to hx5 hB5 es v hrd (by show d.tr.length + es.length≤_;have:=htr.out;omega));have hT5:=Lib.hid ((⟨⟨x5,hx5⟩,ho5,hB5⟩:WdTo B F Z w5 g s { d with l:=d.l.set cc.toNat (some k') })))
      | (go_at_call 71;(with_reducible refine htl.out.mono ?_);rintro r w6 ⟨rfl,hT6⟩)
      | fail)
     go_returns
     rw [hR3.out]
     exact ⟨rfl,hfrom.out _ _ _ hWZ (WdTo.trans hT5.out hT6)⟩
    ·have b2:(ck==2)=false:=by rw [beq_eq_false_iff_ne];exact hk2
     have hR3:=Lib.hid (hR2.out.trans ((if_neg hk3).trans (if_neg hk2)))
     clear hR2 hkc
     go_upto_region 14 with fail
     have kz1:=(hKw.out _ hWZ).1
     go_region_held3 (fun Y=> Y.cell? ⟨H,1, .none⟩=some (.int .i64 cc)∧Y.cell? ⟨g,4, .none⟩=some (.slice (some ⟨x.lb,0, .none⟩) d.l.length d.l.length))
      (first | exact ⟨z1,gz4⟩ | exact ⟨(tZ.drew.other hHl _ _).cell 1,(kz1.drew.other hgl _ _).cell 4⟩ | fail)
      (fail)
     obtain ⟨x',hx',ho',_,_⟩:=hplace.out Z Z.drew hWZ (Below.refl _ _).drew
     have tK:=tZ.drew.other hHl cc.toNat (ptrK none 0)
     have hsY:=ho'.size
     have hT1:=Lib.hid (⟨⟨x',hx'⟩,ho',by have:=hWZ.size;omega⟩:WdTo B F Z _ g s { d with l:=d.l.set cc.toNat none })
     change Exit.then _ _ _ _ (Z.drew.setCell ⟨x.lb,cc.toNat, .none⟩ (ptrK none 0))
     generalize Z.drew.setCell ⟨x.lb,cc.toNat, .none⟩ (ptrK none 0)=K1 at *
     have cK:K1.cell? ⟨H,1, .none⟩=some (.int .i64 cc):=tK.cell 1
     have lK:=tK.lt
     have hnH:¬ grow F Z K1 H:=fun e=> by rcases e with e | e;exact hFH e;omega
     have hBK:B≤K1.heap.size:=by have:=hWZ.size;omega
     have lgK:=hx'.top.lt
     have htl2:d.tr.length + 1≤100000000:=by have:=htr.out;omega
     have hR4:d.kill cc=(⟨d.m.put cc (statusV 2 0),d.l.set cc.toNat none,d.tr ++ [⟨1,cc,0,0,0,0,0,0⟩],d.lg⟩,0):=rfl
     replace hR3:=Lib.hid (hR3.out.trans hR4)
     replace htl2:=Lib.hid htl2
     clear hR4 kz1 z0 z1 z2 z3 z4 z5 gz4 zl zf llz lHZ lgZ
     go_wp2_with (first
      | (go_at_call 72;(with_reducible refine (hss.out _ _ _ _ hx').mono ?_);rintro r w5 ⟨rfl,hx5,ho5⟩;have tK5:=tK.only ho5 hnH;have c5:w5.cell? ⟨H,1, .none⟩=some (.int .i64 cc):=tK5.cell 1;have l5:=tK5.lt;have hT5:=Lib.hid (WdTo.trans hT1.out (WdTo.set hx' hBK hx5 ho5));obtain ⟨⟨x2,hx2⟩,_,hB5⟩:=id hT5.out;have lg5:=hx2.top.lt;have hte:=wtell_two hx2 hB5 1 cc htl2.out)
      | (go_at_call 71;(with_reducible refine hte.mono ?_);rintro r w6 ⟨rfl,hT6⟩)
      | fail)
     go_returns
     rw [hR3.out]
     exact ⟨rfl,hfrom.out _ _ _ hWZ (WdTo.trans hT5.out hT6)⟩
/-- A choice is done. -/
theorem wdo_any (h:WdP B F W g s d x) (hB:B≤W.heap.size) (ho:wdOk s d n) (hn:n≤10000000) (c:Ch):
  Calls Tryz.prog 25 #[.pointer (some ⟨g,0, .none⟩), .agg c.cells.toArray] W fun e w'=> e= .returned (.int .i64 (d.act s c).2)∧WdTo B F W w' g s (d.act s c).1:=by
 by_cases hb:c.bad s
 ·have e:d.act s c=(d,1):=if_pos hb
  rw [e]
  exact wdo_bad h hB ho c hb
 ·exact wdo_good h hB ho hn c hb
end

end Go.Proofs.YtampacmmhhilaaaGreat

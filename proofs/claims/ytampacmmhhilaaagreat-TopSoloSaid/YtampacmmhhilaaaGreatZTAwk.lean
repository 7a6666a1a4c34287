/- A block is asked for, had, and given back: the walk of the great laws' awake. -/
import Derived.Test.YtampacmmhhilaaaGreatZAskW

import Derived.Test.YtampacmmhhilaaaGreatBq51

set_option linter.all false
set_option maxHeartbeats 8000000
set_option maxRecDepth 100000
namespace Go.Proofs.YtampacmmhhilaaaGreat

open Go.RowKit

attribute [local go_sem ↓] Go.wp_at_zero Go.wp_at_succ

def sT:Sh:=⟨2,1,1⟩
def tA0:Wd:=zde sT
def tA1:Wd:=(tA0.act sT ⟨1,0,0,0,0,0⟩).1
def tA2:Wd:=askW sT tA1 0 ⟨1,0,100⟩
def tA3:Wd:=askW sT tA2 0 ⟨1,0,1⟩
def tA4:Wd:=askW sT tA3 0 ⟨2,0,0⟩
theorem tE1:(tA0.act sT ⟨1,0,0,0,0,0⟩).2=0:=by decide +kernel
theorem tE2:(tA1.act sT ⟨2,0,1,0,100,0⟩).2=0:=by decide +kernel
theorem tL2:ygv tA2=0:=by decide +kernel
theorem tE3:(tA2.act sT ⟨2,0,1,0,1,0⟩).2=0:=by decide +kernel
theorem tL3:ygv tA3=3:=by decide +kernel
theorem tE4:(tA3.act sT ⟨2,0,2,0,0,0⟩).2=0:=by decide +kernel
theorem tL4:ygv tA4=0:=by decide +kernel
theorem tF4:(⟨2,1,1,tA4.m.ws⟩:Hp).count.f=128:=by decide +kernel
theorem tM:z5k sT=284:=by decide
theorem audT (ws:List Int) (hc:(⟨2,1,1,ws⟩:Hp).count.f=128) (hf:∀ x ∈ ws,0<=x/\x < 18446744073709551616) (v:Value) (Y:World) (h:RdZ .u64 Y v ws):
  Calls Tryz.prog 58 #[.agg #[.int .i64 2,.int .i64 1,.int .i64 1],v] Y fun e w'=> (∃ a b c:Value,e= .returned (.agg #[.int .i64 128,a,b,c]))/\Below Y.heap.size Y w':=by
 refine (ycv ⟨2,1,1,ws⟩ v Y h hf).mono fun e w' hh=> ?_
 have h1:=hh.1
 rw [hc] at h1
 exact ⟨⟨_,_,_,h1⟩,hh.2⟩
theorem fit_of {s:Sh} {d:Wd} {n:Nat} (h:wdOk s d n):∀ x ∈ d.m.ws,0<=x/\x < 18446744073709551616:=h.fit
theorem yhd (a b c d:Value) (w:World):(Instr.field 111 (.agg #[a,b,c,d]) 0).run Tryz.prog w= .ok a w:=by kernel_rfl
attribute [local go_sem ↓] yhd

theorem yhf (W:World):Calls Tryz.prog 15 #[] W fun e w'=> e= .returned (.bool true)/\Below W.heap.size W w':=by
 have o0:=zl9 (s:=sT) (by decide)
 have o1:wdOk sT tA1 1:=zeo o0 _
 have o2:wdOk sT tA2 286:=by have h:=yhe (c:=0) (o:=⟨1,0,100⟩) o1;rw [tM] at h;exact h
 have o3:wdOk sT tA3 571:=by have h:=yhe (c:=0) (o:=⟨1,0,1⟩) o2;rw [tM] at h;exact h
 have o4:wdOk sT tA4 856:=by have h:=yhe (c:=0) (o:=⟨2,0,0⟩) o3;rw [tM] at h;exact h
 have hbeg:∀ Y,Calls Tryz.prog 17 #[.agg #[.int .i64 2,.int .i64 1,.int .i64 1]] Y fun e w'=> Below Y.heap.size Y w'/\∃ g v x,e= .returned (.tuple #[.pointer (some ⟨g,0,.none⟩),.pointer (some ⟨v,0,.none⟩)])/\WdP Y.heap.size (fun i=> Y.heap.size<=i/\i < w'.heap.size) w' g sT tA0 x:=fun Y=> znk sT Y (by decide)
 have hnil:∀ (p:Nat) (W:World),(binOp .eql 27 (.pointer (some ⟨p,0,.none⟩)) (.pointer none)).run Tryz.prog W= .ok (.bool false) W:=fun p W=> by kernel_rfl
 have hd0:∀ (B:Nat) (F:Nat->Prop) X g x,WdP B F X g sT tA0 x->B<=X.heap.size->Calls Tryz.prog 25 #[.pointer (some ⟨g,0,.none⟩),.agg #[.int .i64 1,.int .i64 0,.int .i64 0,.int .i64 0,.int .i64 0,.float .f64 0]] X fun e w'=> e= .returned (.int .i64 0)/\WdTo B F X w' g sT tA1:=fun B F X g x hx hB=> by
  have h:=zkm hx hB o0 (by omega) ⟨1,0,0,0,0,0⟩
  rw [tE1] at h
  exact h
 have hk1:∀ (B:Nat) (F:Nat->Prop) X g x,WdP B F X g sT tA1 x->B<=X.heap.size->Calls Tryz.prog 57 #[.pointer (some ⟨g,0,.none⟩),.agg #[.int .i64 2,.int .i64 1,.int .i64 1],.int .i64 0,.agg #[.int .i64 1,.int .i64 0,.int .i64 100]] X fun e w'=> e= .returned (.tuple #[.int .i64 0,.bool true])/\WdTo B F X w' g sT tA2:=fun B F X g x hx hB=> by
  refine (yha hx hB o1 (by rw [tM];omega) 0 ⟨1,0,100⟩).mono fun e w' hh=> ?_
  dsimp only at hh
  rw [if_pos tE2] at hh
  rw [<- tL2]
  exact hh
 have hk2:∀ (B:Nat) (F:Nat->Prop) X g x,WdP B F X g sT tA2 x->B<=X.heap.size->Calls Tryz.prog 57 #[.pointer (some ⟨g,0,.none⟩),.agg #[.int .i64 2,.int .i64 1,.int .i64 1],.int .i64 0,.agg #[.int .i64 1,.int .i64 0,.int .i64 1]] X fun e w'=> e= .returned (.tuple #[.int .i64 3,.bool true])/\WdTo B F X w' g sT tA3:=fun B F X g x hx hB=> by
  refine (yha hx hB o2 (by rw [tM];omega) 0 ⟨1,0,1⟩).mono fun e w' hh=> ?_
  dsimp only at hh
  rw [if_pos tE3] at hh
  rw [<- tL3]
  exact hh
 have hk3:∀ (B:Nat) (F:Nat->Prop) X g x,WdP B F X g sT tA3 x->B<=X.heap.size->Calls Tryz.prog 57 #[.pointer (some ⟨g,0,.none⟩),.agg #[.int .i64 2,.int .i64 1,.int .i64 1],.int .i64 0,.agg #[.int .i64 2,.int .i64 0,.int .i64 0]] X fun e w'=> e= .returned (.tuple #[.int .i64 0,.bool true])/\WdTo B F X w' g sT tA4:=fun B F X g x hx hB=> by
  refine (yha hx hB o3 (by rw [tM];omega) 0 ⟨2,0,0⟩).mono fun e w' hh=> ?_
  dsimp only at hh
  rw [if_pos tE4] at hh
  rw [<- tL4]
  exact hh
 have hwd:∀ (B:Nat) (F:Nat->Prop) X g x,WdP B F X g sT tA4 x->Calls Tryz.prog 35 #[.pointer (some ⟨g,0,.none⟩)] X fun e w'=> ∃ v',e= .returned v'/\Below X.heap.size X w'/\RdZ .u64 w' v' tA4.m.ws:=fun B F X g x hx=>
  (ycw hx).mono fun e w' ⟨v,h1,h2,h3⟩=> ⟨v,h1,h2,RdS.zew h3⟩
 have haud:∀ Y v,RdZ .u64 Y v tA4.m.ws->Calls Tryz.prog 58 #[.agg #[.int .i64 2,.int .i64 1,.int .i64 1],v] Y fun e w'=> (∃ a b c:Value,e= .returned (.agg #[.int .i64 128,a,b,c]))/\Below Y.heap.size Y w':=fun Y v h=> audT _ tF4 (fit_of o4) v Y h
 have hb0:=(Below.refl W.heap.size W).alloc lr (.cells #[.int .i64 2,.int .i64 1,.int .i64 1] 23)
 have t0:zaa (W.alloc (.cells #[.int .i64 2,.int .i64 1,.int .i64 1] 23)) W.heap.size #[.int .i64 2,.int .i64 1,.int .i64 1] 23:=heap_alloc_new _ _
 replace hbeg:=hd' hbeg
 replace hd0:=hd' hd0
 replace hk1:=hd' hk1
 replace hk2:=hd' hk2
 replace hk3:=hd' hk3
 replace hwd:=hd' hwd
 replace haud:=hd' haud
 clear o0 o1 o2 o3 o4
 go_enter Tryz.func15,Tryz.ntmps15
 go_upto_region 2 with fail
 generalize W.alloc (.cells #[.int .i64 2,.int .i64 1,.int .i64 1] 23)=X at *
 obtain ⟨H,hH,hH'⟩:=hidv W.heap.size
 rw [<- hH'] at t0 ⊢
 clear hH'
 have lH:=t0.lt
 obtain ⟨c0,c1,c2⟩:=ci3 2 1 1 t0.cell
 go_upto_region 6 with (first
  | (go_at_call 17;(with_reducible refine (hbeg.out _).mono ?_);rintro r w1 ⟨hb1,g,vv,x0,rfl,hx0⟩;have hB0:=hb1.size)
  | (go_at_call 25;(with_reducible refine (hd0.out _ _ _ _ _ hx0 hB0).mono ?_);rintro r w2 ⟨rfl,⟨x1,hx1⟩,ho1,hB1⟩)
  | fail)
 have t1:=t0.below hb1
 have nF0:¬ (X.heap.size<=H/\H < w1.heap.size):=fun e=> by omega
 have t2:=t1.only ho1 nF0
 have nF1:=zif (F:=fun i=> X.heap.size<=i/\i < w1.heap.size) (W':=w2) nF0 t1.lt
 clear c0 c1 c2 lH
 have lH:=t2.lt
 obtain ⟨c0,c1,c2⟩:=ci3 2 1 1 t2.cell
 go_upto_region 7 with (first
  | (go_at_call 57;(with_reducible refine (hk1.out _ _ _ _ _ hx1 hB1).mono ?_);rintro r w3 ⟨rfl,⟨x2,hx2⟩,ho2,hB2⟩)
  | fail)
 have t3:=t2.only ho2 nF1
 have nF2:=zif (W':=w3) nF1 t2.lt
 clear c0 c1 c2 lH
 have lH:=t3.lt
 obtain ⟨c0,c1,c2⟩:=ci3 2 1 1 t3.cell
 go_upto_region 8 with (first
  | (go_at_call 57;(with_reducible refine (hk2.out _ _ _ _ _ hx2 hB2).mono ?_);rintro r w4 ⟨rfl,⟨x3,hx3⟩,ho3,hB3⟩)
  | fail)
 have t4:=t3.only ho3 nF2
 have nF3:=zif (W':=w4) nF2 t3.lt
 clear c0 c1 c2 lH
 have lH:=t4.lt
 obtain ⟨c0,c1,c2⟩:=ci3 2 1 1 t4.cell
 go_upto_region 9 with (first
  | (go_at_call 57;(with_reducible refine (hk3.out _ _ _ _ _ hx3 hB3).mono ?_);rintro r w5 ⟨rfl,⟨x4,hx4⟩,ho4,hB4⟩)
  | fail)
 have t5:=t4.only ho4 nF3
 clear c0 c1 c2 lH
 have lH:=t5.lt
 obtain ⟨c0,c1,c2⟩:=ci3 2 1 1 t5.cell
 have hbs:Below W.heap.size W w5:=hb0.trans ((hb1.trans ((ho1.below hB0 (fun i hi=> (hx0.lt i hi).1)).trans ((ho2.below hB1 (fun i hi=> (hx1.lt i hi).1)).trans ((ho3.below hB2 (fun i hi=> (hx2.lt i hi).1)).trans (ho4.below hB3 (fun i hi=> (hx3.lt i hi).1)))))).mono hb0.size)
 have hWs:=hbs.size
 have hwd2:∀ Z,Below w5.heap.size w5 Z->Calls Tryz.prog 35 #[.pointer (some ⟨g,0,.none⟩)] Z fun e w'=> ∃ v',e= .returned v'/\Below Z.heap.size Z w'/\RdZ .u64 w' v' tA4.m.ws:=fun Z hZ=> hwd.out _ _ _ _ _ (hx4.below hZ)
 have hk:∀ Z,Below w5.heap.size w5 Z->Z.cell? ⟨H,0,.none⟩=some (.int .i64 2)/\Z.cell? ⟨H,1,.none⟩=some (.int .i64 1)/\Z.cell? ⟨H,2,.none⟩=some (.int .i64 1):=fun Z hZ=> ⟨zai hZ _ _ _ c0,zai hZ _ _ _ c1,zai hZ _ _ _ c2⟩
 replace hwd2:=hd' hwd2
 replace hk:=hd' hk
 have dd:=hd' (Below.refl w5.heap.size w5).drew
 go_region_held3 (fun Y=> Y.cell? ⟨H,0,.none⟩=some (.int .i64 2)/\Y.cell? ⟨H,1,.none⟩=some (.int .i64 1)/\Y.cell? ⟨H,2,.none⟩=some (.int .i64 1))
  (first | exact hk.out _ dd.out | exact hk.out _ (dd.out.trans (hb6.mono dd.out.size)) | exact hk.out _ ((dd.out.trans (hb6.mono dd.out.size)).trans (hb7.mono (by have:=dd.out.size;have:=hb6.size;omega))) | fail)
  (first
   | (go_at_call 35;(with_reducible refine (hwd2.out _ dd.out).mono ?_);rintro r w6 ⟨v,rfl,hb6,hv⟩)
   | (go_at_call 58;(with_reducible refine (haud.out _ _ hv).mono ?_);rintro r w7 ⟨⟨a,b,c,rfl⟩,hb7⟩)
   | fail)
 go_wp2_with fail
 go_returns
 have h6:=dd.out.trans (hb6.mono dd.out.size)
 exact ⟨rfl,hbs.trans ((h6.trans (hb7.mono h6.size)).mono hWs)⟩
end Go.Proofs.YtampacmmhhilaaaGreat

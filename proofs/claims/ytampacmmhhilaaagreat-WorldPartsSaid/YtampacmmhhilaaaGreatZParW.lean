/- A schedule in two parts goes as it does in one; a choice that is refused changes nothing: the walk of the law. -/
import Derived.Test.YtampacmmhhilaaaGreatZParP

import Derived.Test.YtampacmmhhilaaaGreatBq51

import Derived.Test.YtampacmmhhilaaaGreatBq49

set_option linter.all false
set_option maxHeartbeats 8000000
set_option maxRecDepth 100000
namespace Go.Proofs.YtampacmmhhilaaaGreat

open Go.RowKit

attribute [local go_sem ↓] Go.wp_at_zero Go.wp_at_succ

attribute [local go_sem high] zm6 zml zky

theorem rdC_ofP {w:World} {v:Value} {n:Nat} {xs:List Ch} (h:RdS w 6 v n (xs.flatMap Ch.cells)) (hn:n=xs.length):RdC w v xs:=by
 subst hn
 obtain ⟨ao,cap,e,h1,h2,hl,hr⟩:=id h
 refine ⟨ao,cap,e,h1,h2,fun hx=> ?_⟩
 obtain ⟨b,off,ea,hb,hc⟩:=hr (by cases xs with | nil=> exact absurd rfl hx | cons a l=> simp)
 exact ⟨b,off,ea,hb,fun i j hi hj=> by rw [Nat.add_assoc,hc _ (by omega)];exact yan xs i hi j hj⟩
theorem flat_drop (xs:List Ch) (k:Nat):(xs.flatMap Ch.cells).drop (k * 6)=(xs.drop k).flatMap Ch.cells:=by
 induction k generalizing xs with
 | zero=> simp
 | succ k ih=>
  cases xs with
  | nil=> simp
  | cons a l=>
   rw [List.flatMap_cons,show (k + 1) * 6=a.cells.length + k * 6 by show _=6 + k * 6;omega,<- List.drop_drop,List.drop_left,ih]
   rfl
theorem flat_take (xs:List Ch) (k:Nat):(xs.flatMap Ch.cells).take (k * 6)=(xs.take k).flatMap Ch.cells:=by
 induction k generalizing xs with
 | zero=> simp
 | succ k ih=>
  cases xs with
  | nil=> simp
  | cons a l=>
   rw [List.flatMap_cons,show (k + 1) * 6=a.cells.length + k * 6 by show _=6 + k * 6;omega,List.take_length_add_append,ih]
   rfl
def Apart (F G:Nat->Prop):Prop:=∀ i,F i->¬ G i
theorem apart_grow {F G:Nat->Prop} {W W':World} (h:Apart F G) (hF:∀ i,F i->i < W.heap.size):Apart F (grow G W W'):=fun i hi e=> by
 rcases e with e | e
 ·exact h i hi e
 ·have:=hF i hi;omega
theorem play_own {B:Nat} {F:Nat->Prop} {w Y:World} {g m:Nat} {s:Sh} {d:Wd} {x:Wx} {v:Value} {xs:List Ch} (h:WdP B F w g s d x) (hB:B<=w.heap.size) (ho:wdOk s d m) (hn:m + xs.length<=10000000) (hY:Below w.heap.size w Y) (hv:OwnC 46 w.heap.size Y v xs):
  Calls Tryz.prog 18 #[.pointer (some ⟨g,0,.none⟩),v] Y fun e w'=> e= .returned (.int .i64 (d.play s xs).2)/\WdTo B F Y w' g s (d.play s xs).1:=
 yds (h.below hY) (Nat.le_trans hB hY.size) ho xs hn v (RdS.zew hv) (fun b off cap e hF=> by have h1:=(hv.lt b (by rw [e];rfl)).1;have:=(h.lt b hF).2;omega)
theorem parts22_any (s:Sh) (xs:List Ch) (v:Value) (cut:Int) (hcut:0<=cut/\cut < 65536) (W:World) (hr:RdS W 6 v xs.length (xs.flatMap Ch.cells)):
  Calls Tryz.prog 8 #[.agg #[.int .i64 s.p,.int .i64 s.c,.int .i64 s.m],v,.int .u16 cut] W fun e w'=> e= .returned (.bool true)/\Below W.heap.size W w':=by
 have hr0:=hr
 obtain ⟨ao,cap,rfl,hcap,hcm,hl,hrow⟩:=id hr
 obtain ⟨n,hn,hn'⟩:=hidv xs.length
 rw [<- hn'] at hcap hrow hl hr0 ⊢
 clear hn' hr
 have haw:=fun Y=> zn0 Y
 have hro:∀ Y,Calls Tryz.prog 16 #[.slice ao n cap,.int .i64 1000] Y fun e w'=> e= .returned (.bool (decide (n<=1000)))/\w'=Y:=fun Y=> zzm ao n cap 1000 (by omega) Y
 have hnil1:∀ (p:Nat) (W:World),(binOp .eql 27 (.pointer (some ⟨p,0,.none⟩)) (.pointer none)).run Tryz.prog W= .ok (.bool false) W:=fun p W=> by kernel_rfl
 have hnil0:∀ (W:World),(binOp .eql 27 (.pointer none) (.pointer none)).run Tryz.prog W= .ok (.bool true) W:=fun W=> by kernel_rfl
 have hb0:=(Below.refl W.heap.size W).alloc lr (.cells #[.int .i64 s.p,.int .i64 s.c,.int .i64 s.m] 23)
 have t0:zaa (W.alloc (.cells #[.int .i64 s.p,.int .i64 s.c,.int .i64 s.m] 23)) W.heap.size #[.int .i64 s.p,.int .i64 s.c,.int .i64 s.m] 23:=heap_alloc_new _ _
 replace haw:=hd' haw
 replace hrow:=hd' hrow
 replace hl:=hd' hl
 by_cases hlen:¬ n<=1000
 ·rw [decide_eq_false hlen] at hro
  replace hro:=hd' hro
  clear hlen
  go_enter Tryz.func8,Tryz.ntmps8
  go_wp2_with (first
   | (go_at_call 27;(with_reducible refine (haw.out _).mono ?_);rintro r w1 ⟨rfl,hb1⟩)
   | (go_at_call 16;(with_reducible refine (hro.out _).mono ?_);rintro r w2 ⟨rfl,hw2⟩;obtain rfl:=hw2.symm)
   | fail)
  go_returns
  exact ⟨rfl,zab hb0 hb1⟩
 replace hlen:=Decidable.not_not.1 hlen
 rw [decide_eq_true hlen] at hro
 replace hro:=hd' hro
 by_cases hm:¬ mayB s.p s.c s.m=true
 ·have hbg:=fun Y=> yfo s Y hm
  replace hbg:=hd' hbg
  clear hm
  go_enter Tryz.func8,Tryz.ntmps8
  go_upto_region 5 with (first
   | (go_at_call 27;(with_reducible refine (haw.out _).mono ?_);rintro r w1 ⟨rfl,hb1⟩)
   | (go_at_call 16;(with_reducible refine (hro.out _).mono ?_);rintro r w2 ⟨rfl,hw2⟩;obtain rfl:=hw2.symm)
   | fail)
  have t1:=t0.below hb1
  obtain ⟨c0,c1,c2⟩:=ci3 s.p s.c s.m t1.cell
  have hb01:=zab hb0 hb1
  have lH:=t1.lt
  clear t0 hb0 hb1
  go_wp2_with (first
   | (go_at_call 17;(with_reducible refine (hbg.out _).mono ?_);rintro r w3 ⟨hb3,rfl⟩;have d0:=zai hb3 _ _ _ c0;have d1:=zai hb3 _ _ _ c1;have d2:=zai hb3 _ _ _ c2;have lH3:=zqe d0)
   | (go_at_call 17;(with_reducible refine (hbg.out _).mono ?_);rintro r w4 ⟨hb4,rfl⟩)
   | fail)
  go_returns
  exact ⟨rfl,zab (zab hb01 hb3) hb4⟩
 replace hm:=Decidable.not_not.1 hm
 have hbg:=fun Y=> znk s Y hm
 have hok0:=zl9 hm
 have hokD:wdOk s ((zde s).play s xs).1 n:=by
  have h:=zv6 hok0 xs
  rw [Nat.zero_add,<- hn.out] at h
  rw [ztk];exact h
 have hchA:=fun Y (hY:Below W.heap.size W Y)=> ycu xs (.slice ao n cap) Y ((rdC_ofP hr0 hn.out).below hY) (by rw [<- hn.out];omega)
 replace hbg:=hd' hbg
 replace hchA:=hd' hchA
 go_enter Tryz.func8,Tryz.ntmps8
 go_upto_region 5 with (first
  | (go_at_call 27;(with_reducible refine (haw.out _).mono ?_);rintro r w1 ⟨rfl,hb1⟩)
  | (go_at_call 16;(with_reducible refine (hro.out _).mono ?_);rintro r w2 ⟨rfl,hw2⟩;obtain rfl:=hw2.symm)
  | fail)
 have t1:=t0.below hb1
 have hb01:=zab hb0 hb1
 obtain ⟨H,hH,hH'⟩:=hidv W.heap.size
 rw [<- hH'] at t1 ⊢
 have lH:=t1.lt
 have hWH:=hb01.size
 clear hH' t0 hb0 hb1
 obtain ⟨c0,c1,c2⟩:=ci3 s.p s.c s.m t1.cell
 go_upto_region 6 with (first
  | (go_at_call 17;(with_reducible refine (hbg.out _).mono ?_);rintro r w2 ⟨hb2,ga,va,xa,rfl,hxa⟩)
  | fail)
 have t2:=t1.below hb2
 have lH2:=t2.lt
 have hs2:=hb2.size
 clear c0 c1 c2
 obtain ⟨c0,c1,c2⟩:=ci3 s.p s.c s.m t2.cell
 go_upto_region 10 with (first
  | (go_at_call 17;(with_reducible refine (hbg.out _).mono ?_);rintro r w3 ⟨hb3,gb,vb,xb,rfl,hxb⟩)
  | fail)
 have t3:=t2.below hb3
 have lH3:=t3.lt
 have hs3:=hb3.size
 clear c0 c1 c2
 obtain ⟨FA,hFA,hFA'⟩:∃ F:Nat->Prop,Hid (F=fun i=> w1.heap.size<=i/\i < w2.heap.size)/\F=fun i=> w1.heap.size<=i/\i < w2.heap.size:=⟨_,hd' rfl,rfl⟩
 obtain ⟨FB,hFB,hFB'⟩:∃ F:Nat->Prop,Hid (F=fun i=> w2.heap.size<=i/\i < w3.heap.size)/\F=fun i=> w2.heap.size<=i/\i < w3.heap.size:=⟨_,hd' rfl,rfl⟩
 rw [<- hFA'] at hxa
 rw [<- hFB'] at hxb
 have hAB:Apart FA FB:=fun i h1 h2=> by rw [hFA'] at h1;rw [hFB'] at h2;have:=h1.2;have:=h2.1;omega
 have hBA:Apart FB FA:=fun i h1 h2=> hAB i h2 h1
 have hFAH:¬ FA H:=fun e=> by rw [hFA'] at e;have:=e.1;omega
 have hFBH:¬ FB H:=fun e=> by rw [hFB'] at e;have:=e.1;omega
 have hA3:WdP w1.heap.size FA w3 ga s (zde s) xa:=hxa.below hb3
 have hB3:WdP w1.heap.size FB w3 gb s (zde s) xb:=hxb.lower hs2
 have hb03:Below W.heap.size W w3:=zab (zab hb01 hb2) hb3
 clear hFA' hFB' hFA hFB hxa hxb t1 t2 hb2 hb3 lH lH2
 obtain ⟨k,hkn,hke⟩:∃ k:Nat,k<=n/\cut % ((n:Int) + 1)=(k:Int):=⟨(cut % ((n:Int) + 1)).toNat,by have h1:=Int.emod_nonneg cut (show (n:Int) + 1≠0 by omega);have h2:=Int.emod_lt_of_pos cut (show 0 < (n:Int) + 1 by omega);omega,by have h1:=Int.emod_nonneg cut (show (n:Int) + 1≠0 by omega);omega⟩
 have hkL:k<=xs.length:=by rw [<- hn.out];exact hkn
 have htk:(xs.take k).length=k:=by rw [List.length_take];omega
 have hdk:(xs.drop k).length=n - k:=by rw [List.length_drop,<- hn.out]
 have hr1:RdS W 6 (cutV ao 0 k cap 6) k ((xs.take k).flatMap Ch.cells):=by
  have h:=RdS.cut hr0 (Nat.zero_le k) hkn
  rw [Nat.sub_zero,Nat.zero_mul,List.drop_zero,flat_take] at h
  exact h
 have hr2:RdS W 6 (cutV ao k n cap 6) (n - k) ((xs.drop k).flatMap Ch.cells):=by
  have h:=RdS.cut hr0 hkn (Nat.le_refl n)
  rw [flat_drop,<- hdk,List.take_of_length_le (by rw [show ((xs.drop k).flatMap Ch.cells).length=(xs.drop k).length * 6 from zlj _];omega),hdk] at h
  exact h
 have hch1:=fun Y (hY:Below W.heap.size W Y)=> ycu (xs.take k) (cutV ao 0 k cap 6) Y ((rdC_ofP hr1 htk.symm).below hY) (by omega)
 have hch2:=fun Y (hY:Below W.heap.size W Y)=> ycu (xs.drop k) (cutV ao k n cap 6) Y ((rdC_ofP hr2 hdk.symm).below hY) (by omega)
 have hokK:wdOk s ((zde s).play s (xs.take k)).1 k:=by
  have h:=zv6 hok0 (xs.take k)
  rw [Nat.zero_add,htk] at h
  rw [ztk];exact h
 have happ1:(((zde s).play s (xs.take k)).1.play s (xs.drop k)).1=((zde s).play s xs).1:=by
  rw [ztk,ztk,ztk]
  unfold Wd.acts
  rw [<- List.foldl_append,List.take_append_drop]
 have happ2:((zde s).play s (xs.take k)).2 + (((zde s).play s (xs.take k)).1.play s (xs.drop k)).2=((zde s).play s xs).2:=by
  rw [<- z6g,List.take_append_drop]
 have hpbd:=ybh s xs (zde s)
 rw [<- hn.out] at hpbd
 have hplA:∀ Y v,Below w3.heap.size w3 Y->OwnC 46 w3.heap.size Y v xs->Calls Tryz.prog 18 #[.pointer (some ⟨ga,0,.none⟩),v] Y fun e w'=> e= .returned (.int .i64 ((zde s).play s xs).2)/\WdTo w1.heap.size FA Y w' ga s ((zde s).play s xs).1:=fun Y v hY hv=> play_own hA3 (by omega) hok0 (by rw [<- hn.out];omega) hY hv
 have hcz:=fun i (hi:i<=n)=> ycf hm xs i (hn.out ▸ hi)
 have hzz:=fun i (hi:i < xs.length)=> zz5 s (zde s) xs hi
 have hzE:((zde s).play s (xs.take n)).2=((zde s).play s xs).2:=by rw [hn.out,List.take_length]
 have hdE:(zde s).acts s (xs.take n)=((zde s).play s xs).1:=by rw [hn.out,List.take_length,ztk]
 have hz0:((zde s).play s (xs.take 0)).2=0:=rfl
 replace hch1:=hd' hch1
 replace hch2:=hd' hch2
 replace hplA:=hd' hplA
 replace hcz:=hd' hcz
 replace hzz:=hd' hzz
 replace hzE:=hd' hzE
 replace hdE:=hd' hdE
 replace happ1:=hd' happ1
 replace happ2:=hd' happ2
 clear hr1 hr2 hr0
 have hcutw:IntKind.i64.wrap cut=cut:=IntWalk.i64_in _ ⟨by omega,by omega⟩
 have hn1w:IntKind.i64.wrap ((n:Int) + 1)=(n:Int) + 1:=IntWalk.i64_in _ ⟨by omega,by omega⟩
 have hkw:IntKind.i64.wrap (k:Int)=(k:Int):=IntWalk.i64_in _ ⟨by omega,by omega⟩
 have hrem:Int.tmod cut ((n:Int) + 1)=(k:Int):=by rw [Int.tmod_eq_emod_of_nonneg hcut.1];exact hke
 have hn1z:¬ (n:Int) + 1=0:=by omega
 go_upto_if 43 with fail
 go_cut [11] from 44 to 49 (fun v11 wx=> v11= .int .i64 (k:Int)/\wx=w3)
 case first=>
  by_cases hn0:n=0
  ·have hk0:k=0:=by omega
   subst hn0
   subst hk0
   go_wp2_with fail
   go_meet
   exact ⟨rfl,rfl⟩
  ·have hnp:(0:Int) < (n:Int):=by omega
   go_wp2_with fail
   go_meet
   exact ⟨rfl,rfl⟩
 case rest=>
  obtain ⟨rfl,hwx⟩:=hcut
  obtain rfl:=hwx.symm
  clear hcutw hn1w hkw hrem hn1z hke
  generalize hD:((zde s).play s xs).1=D at *
  generalize hpz:((zde s).play s xs).2=pz at *
  replace hD:=hd' hD
  replace hpz:=hd' hpz
  go_upto_region 13 with (first
   | (go_at_call 19;(with_reducible refine (hchA.out _ hb03).mono ?_);rintro r w4 ⟨v4,rfl,hb4,hv4⟩)
   | (go_at_call 18;(with_reducible refine (hplA.out _ _ hb4 hv4).mono ?_);rintro r w5 ⟨rfl,⟨x5,hA5⟩,ho5,hBw5⟩)
   | fail)
  have hs4:=hb4.size
  have hs5:=ho5.size
  have hltA:=hA3.lt
  have hltB:=hB3.lt
  have hltA4:∀ i,FA i->i < w4.heap.size:=fun i h=> by have:=(hltA i h).2;omega
  have hB5:WdP w1.heap.size FB w5 gb s (zde s) xb:=(hB3.below hb4).only ho5 (fun i h=> hBA i h)
  have t5:=(t3.below hb4).only ho5 hFAH
  have hBA5:Apart FB (grow FA w4 w5):=apart_grow hBA (fun i h=> by have:=(hltB i h).2;omega)
  have hb05:Below W.heap.size W w5:=(zab hb03 hb4).trans (ho5.below (B:=W.heap.size) (by omega) (fun i h=> by have:=(hltA i h).1;omega))
  have nFA5:=zif (W':=w5) hFAH (t3.below hb4).lt
  generalize hFA5:grow FA w4 w5=FA5 at *
  replace hFA5:=hd' hFA5
  clear hA3 hB3 hv4 hb4 t3 hchA hplA hb03 hAB hBA
  have dd:=(Below.refl w5.heap.size w5).drew
  have hbd:=hb05.trans (dd.mono hb05.size)
  have hB5d:=hB5.below dd
  replace hbd:=hd' hbd
  have hp1w:w1.heap.size<=w5.drew.heap.size:=hBw5
  have hk0':(0:Int)<=(k:Int):=by omega
  have hkc':(k:Int)<=(cap:Int):=by omega
  have hkn':(k:Int)<=(n:Int):=by omega
  have hsum:IntKind.i64.wrap (((zde s).play s (xs.take k)).2 + (((zde s).play s (xs.take k)).1.play s (xs.drop k)).2)=pz:=by
   rw [happ2.out]
   exact IntWalk.i64_in _ ⟨by omega,by omega⟩
  have hAB5:Apart FA5 FB:=fun i h1 h2=> hBA5 i h2 h1
  go_region_held3 (fun _=> True) (first | trivial | fail)
   (first
    | (go_at_call 19;(with_reducible refine (hch1.out _ hbd.out).mono ?_);rintro r w6 ⟨v6,rfl,hb6,hv6⟩;have hb06:=zab hbd.out hb6;have hs6:=hb6.size)
    | (go_at_call 18;(with_reducible refine (play_own hB5d hp1w hok0 (by omega) hb6 hv6).mono ?_);rintro r w7 ⟨rfl,⟨x7,hB7⟩,ho7,hBw7⟩;have hb07:Below W.heap.size W w7:=hb06.trans (ho7.below (B:=W.heap.size) hb06.size (fun i h=> (Nat.le_trans (by omega) (hltB i h).1))))
    | (go_at_call 19;(with_reducible refine (hch2.out _ hb07).mono ?_);rintro r w8 ⟨v8,rfl,hb8,hv8⟩;have hb08:=zab hb07 hb8)
    | (go_at_call 18;(with_reducible refine (play_own hB7 hBw7 hokK (by omega) hb8 hv8).mono ?_);rintro r w9 ⟨rfl,⟨x9,hB9⟩,ho9,hBw9⟩)
    | fail)
  have hs8:=hb8.size
  have hs7:=ho7.size
  have hs9:=ho9.size
  have hltA5:∀ i,FA5 i->i < w5.heap.size:=fun i h=> (hA5.lt i h).2
  have hA6:=(hA5.below dd).below hb6
  have hs56:w5.heap.size<=w6.heap.size:=hs6
  have hA8:=(hA6.only ho7 (fun i h=> hAB5 i h)).below hb8
  have hAB6:Apart FA5 (grow FB w6 w7):=apart_grow hAB5 (fun i h=> by have:=hltA5 i h;omega)
  have hA9:=hA8.only ho9 (fun i h=> hAB6 i h)
  have t6:=(t5.below dd).below hb6
  have nFB:=zif (W':=w7) hFBH t6.lt
  have t9:=((t6.only ho7 hFBH).below hb8).only ho9 nFB
  have hb09:Below W.heap.size W w9:=hb08.trans (ho9.below (B:=W.heap.size) hb08.size (fun i h=> Nat.le_trans (by omega) (hB7.lt i h).1))
  rw [happ1.out] at hB9
  generalize hFB9:grow (grow FB w6 w7) w8 w9=FB9 at *
  replace hFB9:=hd' hFB9
  have hltA9:∀ i,FA5 i->i < w9.heap.size:=fun i h=> (hA9.lt i h).2
  have hltB9:∀ i,FB9 i->i < w9.heap.size:=fun i h=> (hB9.lt i h).2
  obtain ⟨c0,c1,c2⟩:=ci3 s.p s.c s.m t9.cell
  have lH9:=t9.lt
  clear hA5 hA6 hA8 hB5 hB5d hB7 ho5 ho7 ho9 hb6 hb8 hv6 hv8 hb06 hb07 hb08 t5 t6 hch1 hch2 hokK happ1 happ2 hbd dd
  go_upto_region 17 with (first
   | (go_at_call 17;(with_reducible refine (hbg.out _).mono ?_);rintro r w10 ⟨hb10,gc,vc,xc,rfl,hxc⟩)
   | fail)
  have hs10:=hb10.size
  have hA10:=hA9.below hb10
  have hB10:=hB9.below hb10
  have hb010:=zab hb09 hb10
  have hbH:W.heap.size<=w9.heap.size:=hb09.size
  have hok9:=hb010.size
  clear hA9 hB9 hb09 hb10 t9 c0 c1 c2 lH9
  go_wp2
  go_loopw [16,17] (fun v16 v17 wr=> ∃ (i:Nat) (F:Nat->Prop) (x:Wx),i<=n/\v17= .int .i64 i/\v16= .int .i64 ((zde s).play s (xs.take i)).2/\WdP w9.heap.size F wr gc s ((zde s).acts s (xs.take i)) x/\WdP w1.heap.size FA5 wr ga s D x5/\WdP w1.heap.size FB9 wr gb s D x9/\Below W.heap.size W wr) (fun _ v17 _=> n - (intOf v17).toNat)
  case atStart=> exact ⟨0,_,xc,Nat.zero_le _,rfl,by rw [hz0],hxc,hA10,hB10,hb010⟩
  case round=>
   clear hxc hA10 hB10 hb010
   obtain ⟨i,F,x,hin,rfl,rfl,hx,hA,hB,hbr⟩:=hrel
   have hoki:=hcz.out i hin
   have hi0:(0:Int)<=(i:Int):=by omega
   by_cases hi:i < n
   ·have hii:(i:Int) < (n:Int):=by omega
    have wi1:IntKind.i64.wrap ((i:Int) + 1)=(i:Int) + 1:=IntWalk.i64_in _ ⟨by omega,by omega⟩
    have hil:i < xs.length:=hn.out ▸ hi
    have hat:=zm0 (s:=s) (d:=zde s) hil
    have hzt:=hzz.out i hil
    have hzb:=ybh s (xs.take i) (zde s)
    have hzb2:((zde s).play s (xs.take i)).2<=(n:Int):=by
     have h1:=hzb.2
     rw [List.length_take] at h1
     omega
    obtain ⟨gl,gof,rfl,hgb,hcell⟩:=hrow.out (by omega)
    have hcg:=fun k hk=> yan xs i hil k hk
    generalize ((zde s).play s (xs.take i)).2=zi at *
    generalize (zde s).acts s (xs.take i)=d at *
    generalize hc:xs[i]=c at *
    have herr:=act_err hoki c
    have hok1:=zeo hoki c
    obtain ⟨ck,cc,co,ca,cn,cb⟩:=c
    have hy:∀ X,Below W.heap.size W X->X.cell? ⟨gl,gof + i * 6,.none⟩=some (.int .i64 ck)/\X.cell? ⟨gl,gof + i * 6 + 1,.none⟩=some (.int .i64 cc)/\X.cell? ⟨gl,gof + i * 6 + 2,.none⟩=some (.int .i64 co)/\X.cell? ⟨gl,gof + i * 6 + 3,.none⟩=some (.int .i64 ca)/\X.cell? ⟨gl,gof + i * 6 + 4,.none⟩=some (.int .i64 cn)/\X.cell? ⟨gl,gof + i * 6 + 5,.none⟩=some (.float .f64 cb)/\gl < X.heap.size:=fun X hb=> by
     have hk:∀ o,X.cell? ⟨gl,o,.none⟩=W.cell? ⟨gl,o,.none⟩:=fun o=> hb.cell (p:=⟨gl,o,.none⟩) hgb
     have hq:∀ k,k < 6->X.cell? ⟨gl,gof + i * 6 + k,.none⟩=(Ch.cells ⟨ck,cc,co,ca,cn,cb⟩)[k]?:=fun k hk6=> by
      rw [hk,Nat.add_assoc,hcell _ (by omega)]
      exact hcg k hk6
     exact ⟨hq 0 (by omega),hq 1 (by omega),hq 2 (by omega),hq 3 (by omega),hq 4 (by omega),hq 5 (by omega),by have:=hb.size;omega⟩
    have htl:∀ F (d:Wd) x X,WdP w9.heap.size F X gc s d x->d.tr.length<=100000000->Calls Tryz.prog 26 #[.pointer (some ⟨gc,0,.none⟩)] X fun e w'=> Below X.heap.size X w'/\∃ ao cap,e= .returned (.slice ao d.tr.length cap):=fun F d x X hx hl=> by
     refine (zko hx hl).mono fun e w' ⟨v,h1,h2,h3⟩=> ⟨h2,?_⟩
     obtain ⟨ao,cap,rfl,_⟩:=RdS.zew h3
     exact ⟨ao,cap,h1⟩
    have hsl:∀ F (d:Wd) x X,WdP w9.heap.size F X gc s d x->d.lg.length<=100000000->Calls Tryz.prog 30 #[.pointer (some ⟨gc,0,.none⟩)] X fun e w'=> Below X.heap.size X w'/\∃ ao cap,e= .returned (.slice ao d.lg.length cap):=fun F d x X hx hl=> by
     refine (zw1 hx hl).mono fun e w' ⟨v,h1,h2,h3⟩=> ⟨h2,?_⟩
     obtain ⟨ao,cap,rfl,_⟩:=RdS.zew h3
     exact ⟨ao,cap,h1⟩
    have hdo:∀ X,WdP w9.heap.size F X gc s d x->w9.heap.size<=X.heap.size->Calls Tryz.prog 25 #[.pointer (some ⟨gc,0,.none⟩),.agg #[.int .i64 ck,.int .i64 cc,.int .i64 co,.int .i64 ca,.int .i64 cn,.float .f64 cb]] X fun e w'=> e= .returned (.int .i64 (d.act s ⟨ck,cc,co,ca,cn,cb⟩).2)/\WdTo w9.heap.size F X w' gc s (d.act s ⟨ck,cc,co,ca,cn,cb⟩).1:=fun X hx hB=> zkm hx hB hoki (by omega) _
    have hch:∀ X,Calls Tryz.prog 29 #[.agg #[.int .i64 ck,.int .i64 cc,.int .i64 co,.int .i64 ca,.int .i64 cn,.float .f64 cb]] X fun e w'=> e= .returned (.agg #[.int .i64 ck,.int .i64 cc,.int .i64 co,.int .i64 ca,.int .i64 cn,.float .f64 cb])/\Below X.heap.size X w':=fun X=> znm ⟨ck,cc,co,ca,cn,cb⟩ X
    have hfin:∀ X F' x' zv,WdP w9.heap.size F' X gc s (d.act s ⟨ck,cc,co,ca,cn,cb⟩).1 x'->WdP w1.heap.size FA5 X ga s D x5->WdP w1.heap.size FB9 X gb s D x9->Below W.heap.size W X->zv=zi + (if (d.act s ⟨ck,cc,co,ca,cn,cb⟩).2=0 then 1 else 0)->∃ (i':Nat) (F:Nat->Prop) (x:Wx),i'<=n/\Value.int .i64 ((i:Int) + 1)= .int .i64 i'/\Value.int .i64 zv= .int .i64 ((zde s).play s (xs.take i')).2/\WdP w9.heap.size F X gc s ((zde s).acts s (xs.take i')) x/\WdP w1.heap.size FA5 X ga s D x5/\WdP w1.heap.size FB9 X gb s D x9/\Below W.heap.size W X:=fun X F' x' zv h1 h2 h3 h4 h5=> ⟨i + 1,F',x',by omega,by go_num,by rw [hzt,h5],by rw [hat];exact h1,h2,h3,h4⟩
    have hxlt:=hx.lt
    have htr0:=hoki.tr
    have hlg0:=hoki.lg
    have hst0:=hoki.st
    have htr1:=hok1.tr
    have hlg1:=hok1.lg
    have hst1:=hok1.st
    have hH9:w9.heap.size<=wr.heap.size:=by have:=hx.lt _ hx.fg.1;omega
    obtain ⟨m1,hm1,hm1'⟩:=hidv d.tr.length
    obtain ⟨m2,hm2,hm2'⟩:=hidv d.lg.length
    have htA:=fun X hx=> htl F d x X hx (by omega)
    have hsA:=fun X hx=> hsl F d x X hx (by omega)
    rw [<- hm1'] at htA herr
    rw [<- hm2'] at hsA herr
    clear hm1' hm2'
    generalize hdp:(d.act s ⟨ck,cc,co,ca,cn,cb⟩).1=d' at *
    generalize (d.act s ⟨ck,cc,co,ca,cn,cb⟩).2=er at *
    replace hdp:=hd' hdp
    replace htl:=hd' htl
    replace hsl:=hd' hsl
    replace htA:=hd' htA
    replace hsA:=hd' hsA
    replace hy:=hd' hy
    replace hdo:=hd' hdo
    replace hch:=hd' hch
    replace hfin:=hd' hfin
    replace herr:=hd' herr
    replace hxlt:=hd' hxlt
    clear hcell hcg hc hat hzt hoki
    go_upto_region 22 with (first
     | (go_at_call 26;(with_reducible refine (htA.out _ hx).mono ?_);rintro r y1 ⟨hy1,a1,k1,rfl⟩;have hx1:=hx.below hy1)
     | (go_at_call 30;(with_reducible refine (hsA.out _ hx1).mono ?_);rintro r y2 ⟨hy2,a2,k2,rfl⟩;have hx2:=hx1.below hy2)
     | fail)
    have hy12:=zab hy1 hy2
    have hbr2:=zab hbr hy12
    have hA2:=hA.below hy12
    have hB2:=hB.below hy12
    have hH2:w9.heap.size<=y2.heap.size:=by have:=hy12.size;omega
    obtain ⟨z0,z1,z2,z3,z4,z5,zl⟩:=hy.out _ hbr2
    clear hx hx1 hA hB hbr hy1 hy2
    by_cases her:er=0
    ·subst her
     have wz1:=wrp (zi + 1)
     go_wp2_with (first
      | (go_at_call 29;(with_reducible refine (hch.out _).mono ?_);rintro r y3 ⟨rfl,hy3⟩;have hx3:=hx2.below hy3;have hs3':=hy3.size;have hH3:w9.heap.size<=y3.heap.size:=(by omega))
      | (go_at_call 25;(with_reducible refine (hdo.out _ hx3 hH3).mono ?_);rintro r y4 ⟨rfl,⟨x4,hx4⟩,ho4,hH4⟩)
      | fail)
     have hA4:=(hA2.below hy3).only ho4 (fun j h e=> by have:=hltA9 j h;have:=(hxlt.out j e).1;omega)
     have hB4:=(hB2.below hy3).only ho4 (fun j h e=> by have:=hltB9 j h;have:=(hxlt.out j e).1;omega)
     have hbr4:=(zab hbr2 hy3).trans (ho4.below (B:=W.heap.size) (by omega) (fun j h=> Nat.le_trans hbH (hxlt.out j h).1))
     exact ⟨hfin.out _ _ _ (zi + 1) hx4 hA4 hB4 hbr4 (by simp),by simp only [intOf];omega⟩
    ·have be:(er==0)=false:=by rw [beq_eq_false_iff_ne];exact her
     obtain ⟨he1,he2⟩:=herr.out her
     have htB:∀ F x X,WdP w9.heap.size F X gc s d' x->Calls Tryz.prog 26 #[.pointer (some ⟨gc,0,.none⟩)] X fun e w'=> Below X.heap.size X w'/\∃ ao cap,e= .returned (.slice ao m1 cap):=fun F x X hx=> by
      have h:=htl.out F d' x X hx (by omega)
      rw [he1] at h
      exact h
     have hsB:∀ F x X,WdP w9.heap.size F X gc s d' x->Calls Tryz.prog 30 #[.pointer (some ⟨gc,0,.none⟩)] X fun e w'=> Below X.heap.size X w'/\∃ ao cap,e= .returned (.slice ao m2 cap):=fun F x X hx=> by
      have h:=hsl.out F d' x X hx (by omega)
      rw [he2] at h
      exact h
     replace htB:=hd' htB
     replace hsB:=hd' hsB
     clear he1 he2
     go_wp2_with (first
      | (go_at_call 29;(with_reducible refine (hch.out _).mono ?_);rintro r y3 ⟨rfl,hy3⟩;have hx3:=hx2.below hy3;have hs3':=hy3.size;have hH3:w9.heap.size<=y3.heap.size:=(by omega))
      | (go_at_call 25;(with_reducible refine (hdo.out _ hx3 hH3).mono ?_);rintro r y4 ⟨rfl,⟨x4,hx4⟩,ho4,hH4⟩)
      | (go_at_call 26;(with_reducible refine (htB.out _ _ _ hx4).mono ?_);rintro r y5 ⟨hy5,a5,k5,rfl⟩;have hx5:=hx4.below hy5)
      | (go_at_call 30;(with_reducible refine (hsB.out _ _ _ hx5).mono ?_);rintro r y6 ⟨hy6,a6,k6,rfl⟩;have hx6:=hx5.below hy6)
      | fail)
     have hA4:=(hA2.below hy3).only ho4 (fun j h e=> by have:=hltA9 j h;have:=(hxlt.out j e).1;omega)
     have hB4:=(hB2.below hy3).only ho4 (fun j h e=> by have:=hltB9 j h;have:=(hxlt.out j e).1;omega)
     have hbr4:=(zab hbr2 hy3).trans (ho4.below (B:=W.heap.size) (by omega) (fun j h=> Nat.le_trans hbH (hxlt.out j h).1))
     have hy56:=zab hy5 hy6
     exact ⟨hfin.out _ _ _ zi hx6 (hA4.below hy56) (hB4.below hy56) (zab hbr4 hy56) (by rw [if_neg her];omega),by simp only [intOf];omega⟩
   ·obtain rfl:i=n:=by omega
    have hno:¬ (i:Int) < (i:Int):=by omega
    rw [hdE.out] at hx
    rw [hzE.out]
    have htrD:=hokD.tr
    have hlgD:=hokD.lg
    have hstD:=hokD.st
    have htr:∀ (B g:Nat) F x Y,WdP B F wr g s D x->Below wr.heap.size wr Y->Calls Tryz.prog 26 #[.pointer (some ⟨g,0,.none⟩)] Y fun e w'=> ∃ v,e= .returned v/\Below Y.heap.size Y w'/\RdE w' v D.tr:=fun B g F x Y h hY=> (zko (h.below hY) (by omega)).mono fun e w' ⟨v,h1,h2,h3⟩=> ⟨v,h1,h2,RdS.zew h3⟩
    have hlg:∀ (B g:Nat) F x Y,WdP B F wr g s D x->Below wr.heap.size wr Y->Calls Tryz.prog 30 #[.pointer (some ⟨g,0,.none⟩)] Y fun e w'=> ∃ v,e= .returned v/\Below Y.heap.size Y w'/\RdS w' 6 v D.lg.length (D.lg.flatMap fun e=> e.cells.toList):=fun B g F x Y h hY=> (zw1 (h.below hY) (by omega)).mono fun e w' ⟨v,h1,h2,h3⟩=> ⟨v,h1,h2,RdS.zew h3⟩
    have hwd:∀ (B g:Nat) F x Y,WdP B F wr g s D x->Below wr.heap.size wr Y->Calls Tryz.prog 35 #[.pointer (some ⟨g,0,.none⟩)] Y fun e w'=> ∃ v,e= .returned v/\Below Y.heap.size Y w'/\RdZ .u64 w' v D.m.ws:=fun B g F x Y h hY=> (ycw (h.below hY)).mono fun e w' ⟨v,h1,h2,h3⟩=> ⟨v,h1,h2,RdS.zew h3⟩
    replace htr:=hd' htr
    replace hlg:=hd' hlg
    replace hwd:=hd' hwd
    clear hokD htrD hlgD hstD hoki hcz hzz hzE hdE
    go_upto_region 26 with fail
    go_wp2_with (first
     | (go_at_call 26;(with_reducible refine (htr.out _ _ _ _ _ hA br).mono ?_);rintro r y1 ⟨v1,rfl,hy1,hv1⟩)
     | (go_at_call 26;(with_reducible refine (htr.out _ _ _ _ _ hB hy1).mono ?_);rintro r y2 ⟨v2,rfl,hy2,hv2⟩;have hz2:=zab hy1 hy2)
     | (go_at_call 44;(with_reducible refine (z9i D.tr _ _ _ (hv1.below hy2) hv2).mono ?_);rintro r y3 ⟨rfl,hy3⟩;have hz3:=zab hz2 hy3)
     | (go_at_call 26;(with_reducible refine (htr.out _ _ _ _ _ hA hz3).mono ?_);rintro r y4 ⟨v4,rfl,hy4,hv4⟩;have hz4:=zab hz3 hy4)
     | (go_at_call 26;(with_reducible refine (htr.out _ _ _ _ _ hx hz4).mono ?_);rintro r y5 ⟨v5,rfl,hy5,hv5⟩;have hz5:=zab hz4 hy5)
     | (go_at_call 44;(with_reducible refine (z9i D.tr _ _ _ (hv4.below hy5) hv5).mono ?_);rintro r y6 ⟨rfl,hy6⟩;have hz6:=zab hz5 hy6)
     | (go_at_call 35;(with_reducible refine (hwd.out _ _ _ _ _ hA hz6).mono ?_);rintro r y7 ⟨v7,rfl,hy7,hv7⟩;have hz7:=zab hz6 hy7)
     | (go_at_call 35;(with_reducible refine (hwd.out _ _ _ _ _ hB hz7).mono ?_);rintro r y8 ⟨v8,rfl,hy8,hv8⟩;have hz8:=zab hz7 hy8)
     | (go_at_call 34;(with_reducible refine (z8v D.m.ws _ _ _ (hv7.below hy8) hv8).mono ?_);rintro r y9 ⟨rfl,hy9⟩;have hz9:=zab hz8 hy9)
     | (go_at_call 30;(with_reducible refine (hlg.out _ _ _ _ _ hA hz9).mono ?_);rintro r y10 ⟨v10,rfl,hy10,hv10⟩;have hz10:=zab hz9 hy10)
     | (go_at_call 30;(with_reducible refine (hlg.out _ _ _ _ _ hx hz10).mono ?_);rintro r y11 ⟨v11,rfl,hy11,hv11⟩;have hz11:=zab hz10 hy11)
     | (go_at_call 45;(with_reducible refine (sameSteps_eq D.lg _ _ _ (hv10.below hy11) hv11).mono ?_);rintro r y12 ⟨rfl,hy12⟩;have hz12:=zab hz11 hy12)
     | fail)
    go_returns
    exact ⟨rfl,zab hbr hz12⟩
end Go.Proofs.YtampacmmhhilaaaGreat

/- Texts bound together: CliX CapW CliY EdgeW EdgeA. -/
import Derived.Laws.Externs

import Derived.IntWalk

import Derived.Test.YthgekdlegbmehaaGreatBq33

set_option linter.all false
set_option maxHeartbeats 4000000
set_option maxRecDepth 100000
namespace Go.Proofs.YthgekdlegbmehaaGreat

section

open Go.RowKit

attribute [local go_sem ↓] Go.wp_at_zero Go.wp_at_succ

def ztb (w w':World) (e:Ending) (s:Sh) (cl:Int) (j:Jb):Prop:=∃ jv,e= .returned jv/\JbO (fun i=> w.heap.size<=i/\i < w'.heap.size) w' jv s cl j/\Below w.heap.size w w'
theorem zue {q sp:Nat} {s:Sh} {k:Kl} {i:Bool} {jv:Value} {w:World} (h:zaa w q (zat s k i jv (.pointer (some ⟨sp,0,.none⟩))) 55) (hk:1<=k.op.k/\k.op.k<=4):
  Calls Tryz.prog 21 #[.pointer (some ⟨q,0,.none⟩)] w fun e w'=> ztb w w' e s k.c (zgl s k.c k.first k.op.k k.op.a k.op.n):=by
 have g1:=fun W=> ztd s k.c k.op.n k.first W
 have g2:=fun W=> zq9 s k.c k.op.a W
 have g3:=fun W=> z3p s k.c k.op.a k.op.n k.first W
 have g4:=fun W=> z2a s k.c k.op.a W
 have hcs:(k.op.k=1/\zgl s k.c k.first k.op.k k.op.a k.op.n= .mal (zdh s k.c k.op.n k.first) none)\/(k.op.k=2/\zgl s k.c k.first k.op.k k.op.a k.op.n= .fre (zc2 s k.c k.op.a))\/(k.op.k=3/\zgl s k.c k.first k.op.k k.op.a k.op.n= .aga (zhh s k.c k.op.a k.op.n k.first))\/(k.op.k=4/\zgl s k.c k.first k.op.k k.op.a k.op.n= .hei (zix s k.c k.op.a)):=by
  have:k.op.k=1\/k.op.k=2\/k.op.k=3\/k.op.k=4:=by omega
  rcases this with e | e | e | e
  ·exact .inl ⟨e,by rw [e];rfl⟩
  ·exact .inr (.inl ⟨e,by rw [e];rfl⟩)
  ·exact .inr (.inr (.inl ⟨e,by rw [e];rfl⟩))
  ·exact .inr (.inr (.inr ⟨e,by rw [e];rfl⟩))
 obtain ⟨j,hjj⟩:∃ j,j=zgl s k.c k.first k.op.k k.op.a k.op.n:=⟨_,rfl⟩
 rw [<- hjj] at hcs ⊢
 clear hjj hk
 have hfb:=fun (Y:World) (q:Nat) (h:zaa Y q (za7 s (zc2 s k.c k.op.a) (.pointer none)) 123)=> zws h
 generalize zdh s k.c k.op.n k.first=rs0 at *
 generalize zc2 s k.c k.op.a=fe0 at *
 generalize zhh s k.c k.op.a k.op.n k.first=rr0 at *
 generalize zix s k.c k.op.a=ad0 at *
 obtain ⟨kc,kf,⟨ok,oa,on⟩,kj,kt,ks⟩:=k
 dsimp only at hcs g1 g2 g3 g4 ⊢
 have hfin1:=hd' (fun (X Y W:World) (q1 E:Nat) (hX:Below w.heap.size w X) (hO:RsO (fun i=> X.heap.size<=i/\i < Y.heap.size) Y q1 s rs0) (hb:Below X.heap.size X Y) (hE:zaa W E (zg2 s kc (.pointer (some ⟨q1,0,.none⟩)) (.pointer none)) 85) (hEE:Y.heap.size<=E) (hW:Below Y.heap.size Y W)=>
  (⟨_,rfl,⟨E,rfl,fun i hi=> hi.2,⟨Nat.le_trans (Nat.le_trans hX.size hb.size) hEE,hE.lt⟩,q1,0,fun i=> X.heap.size<=i/\i < Y.heap.size,fun i hi=> ⟨⟨Nat.le_trans hX.size hi.1,Nat.lt_of_lt_of_le hi.2 hW.size⟩,fun e=> by omega⟩,hE,hO.bel hW,fun x hx=> (by cases hx)⟩,zab (zab hX hb) hW⟩:ztb w W (.returned (.iface 80 (.pointer (some ⟨E,0,.none⟩)))) s kc (.mal rs0 none)))
 have hfin2:=hd' (fun (X Y:World) (q1:Nat) (hX:Below w.heap.size w X) (h1:X.heap.size<=q1) (hr:zaa Y q1 (za7 s fe0 (.pointer none)) 123) (hb:Below X.heap.size X Y)=>
  (⟨_,rfl,⟨q1,rfl,⟨Nat.le_trans hX.size h1,hr.lt⟩,(hfb Y q1 hr).2.imp (fun q2 hh=> ⟨hh.1,fun e=> by have:=hh.2 e;rw [this];exact ⟨Nat.le_trans hX.size h1,hr.lt⟩⟩)⟩,zab hX hb⟩:ztb w Y (.returned (.iface 89 (.agg #[.pointer (some ⟨q1,0,.none⟩)]))) s kc (.fre fe0)))
 have hfin3:=hd' (fun (X Y:World) (q1:Nat) (hX:Below w.heap.size w X) (hr:RrO (fun i=> X.heap.size<=i/\i < Y.heap.size) Y q1 s rr0) (hb:Below X.heap.size X Y)=>
  (⟨_,rfl,⟨q1,rfl,hr.weak (fun i hi=> ⟨Nat.le_trans hX.size hi.1,hi.2⟩) (fun i hi=> hi.2)⟩,zab hX hb⟩:ztb w Y (.returned (.iface 93 (.agg #[.pointer (some ⟨q1,0,.none⟩)]))) s kc (.aga rr0)))
 have hfin4:=hd' (fun (X Y:World) (q1:Nat) (hX:Below w.heap.size w X) (h1:X.heap.size<=q1) (hr:zaa Y q1 (zan s ad0) 129) (hb:Below X.heap.size X Y)=>
  (⟨_,rfl,⟨q1,rfl,⟨Nat.le_trans hX.size h1,hr.lt⟩,hr⟩,zab hX hb⟩:ztb w Y (.returned (.iface 97 (.agg #[.pointer (some ⟨q1,0,.none⟩)]))) s kc (.hei ad0)))
 clear hfb
 obtain ⟨sp',sc,sm⟩:=s
 dsimp only [zat] at h
 dsimp only at g1 g2 g3 g4
 replace g1:=hd' g1
 replace g2:=hd' g2
 replace g3:=hd' g3
 replace g4:=hd' g4
 have lq:q < w.heap.size:=h.lt
 have c5:=ci ok (h.cell 5)
 rcases hcs with ⟨rfl,hj⟩ | ⟨rfl,hj⟩ | ⟨rfl,hj⟩ | ⟨rfl,hj⟩
 case inl=>
  subst hj
  clear g2 g3 g4 hfin2 hfin3 hfin4
  go_enter Tryz.func21,Tryz.ntmps21
  go_upto_region 3 with fail
  have hd:=h.drew
  have bd:Below w.heap.size w w.drew:=br.drew
  clear lq c5 h
  have lq:q < w.drew.heap.size:=hd.lt
  have hS:=hd' (fun (Y:World) (hr:zaa Y q #[.int .i64 sp',.int .i64 sc,.int .i64 sm,.int .i64 kc,.int .i64 kf,.int .i64 1,.int .i64 oa,.int .i64 on,jv,.bool i,.bool kt,.pointer (some ⟨sp,0,.none⟩),.int .i64 ks] 55)=> (⟨hr.cell 0,hr.cell 1,hr.cell 2,hr.cell 3,hr.cell 4,hr.cell 7⟩:Y.cell? ⟨q,0,.none⟩=some (.int .i64 sp')/\Y.cell? ⟨q,1,.none⟩=some (.int .i64 sc)/\Y.cell? ⟨q,2,.none⟩=some (.int .i64 sm)/\Y.cell? ⟨q,3,.none⟩=some (.int .i64 kc)/\Y.cell? ⟨q,4,.none⟩=some (.int .i64 kf)/\Y.cell? ⟨q,7,.none⟩=some (.int .i64 on)))
  go_region_held3 (fun Y=> Y.cell? ⟨q,0,.none⟩=some (.int .i64 sp')/\Y.cell? ⟨q,1,.none⟩=some (.int .i64 sc)/\Y.cell? ⟨q,2,.none⟩=some (.int .i64 sm)/\Y.cell? ⟨q,3,.none⟩=some (.int .i64 kc)/\Y.cell? ⟨q,4,.none⟩=some (.int .i64 kf)/\Y.cell? ⟨q,7,.none⟩=some (.int .i64 on))
   (first | exact hS.out _ hd | exact hS.out _ h1 | exact hS.out _ (h1.alloc _) | fail)
   (first
    | (go_at_call 38;(with_reducible refine (g1.out _).mono ?_);rintro r w1 ⟨q1,rfl,hO1,hb1⟩;have h1:=hd.below hb1)
    | fail)
  go_wp2_with fail
  go_returns
  exact hfin1.out w.drew w1 _ q1 w1.heap.size bd hO1 hb1 (heap_alloc_new _ _) lr (br.alloc lr _)
 case inr.inl=>
  subst hj
  clear g1 g3 g4 hfin1 hfin3 hfin4
  go_enter Tryz.func21,Tryz.ntmps21
  go_upto_region 5 with fail
  have hd:=h.drew
  have bd:Below w.heap.size w w.drew:=br.drew
  clear lq c5 h
  have lq:q < w.drew.heap.size:=hd.lt
  have hS:=hd' (fun (Y:World) (hr:zaa Y q #[.int .i64 sp',.int .i64 sc,.int .i64 sm,.int .i64 kc,.int .i64 kf,.int .i64 2,.int .i64 oa,.int .i64 on,jv,.bool i,.bool kt,.pointer (some ⟨sp,0,.none⟩),.int .i64 ks] 55)=> (⟨hr.cell 0,hr.cell 1,hr.cell 2,hr.cell 3,hr.cell 6⟩:Y.cell? ⟨q,0,.none⟩=some (.int .i64 sp')/\Y.cell? ⟨q,1,.none⟩=some (.int .i64 sc)/\Y.cell? ⟨q,2,.none⟩=some (.int .i64 sm)/\Y.cell? ⟨q,3,.none⟩=some (.int .i64 kc)/\Y.cell? ⟨q,6,.none⟩=some (.int .i64 oa)))
  go_region_held3 (fun Y=> Y.cell? ⟨q,0,.none⟩=some (.int .i64 sp')/\Y.cell? ⟨q,1,.none⟩=some (.int .i64 sc)/\Y.cell? ⟨q,2,.none⟩=some (.int .i64 sm)/\Y.cell? ⟨q,3,.none⟩=some (.int .i64 kc)/\Y.cell? ⟨q,6,.none⟩=some (.int .i64 oa))
   (first | exact hS.out _ hd | exact hS.out _ h1 | exact hS.out _ (h1.alloc _) | fail)
   (first
    | (go_at_call 39;(with_reducible refine (g2.out _).mono ?_);rintro r w1 ⟨q1,rfl,hq1,hO1,hb1⟩;have h1:=hd.below hb1)
    | fail)
  go_wp2_with fail
  go_returns
  exact hfin2.out w.drew w1 q1 bd hq1 hO1 hb1
 case inr.inr.inl=>
  subst hj
  clear g1 g2 g4 hfin1 hfin2 hfin4
  go_enter Tryz.func21,Tryz.ntmps21
  go_upto_region 7 with fail
  have hd:=h.drew
  have bd:Below w.heap.size w w.drew:=br.drew
  clear lq c5 h
  have lq:q < w.drew.heap.size:=hd.lt
  have hS:=hd' (fun (Y:World) (hr:zaa Y q #[.int .i64 sp',.int .i64 sc,.int .i64 sm,.int .i64 kc,.int .i64 kf,.int .i64 3,.int .i64 oa,.int .i64 on,jv,.bool i,.bool kt,.pointer (some ⟨sp,0,.none⟩),.int .i64 ks] 55)=> (⟨hr.cell 0,hr.cell 1,hr.cell 2,hr.cell 3,hr.cell 4,hr.cell 6,hr.cell 7⟩:Y.cell? ⟨q,0,.none⟩=some (.int .i64 sp')/\Y.cell? ⟨q,1,.none⟩=some (.int .i64 sc)/\Y.cell? ⟨q,2,.none⟩=some (.int .i64 sm)/\Y.cell? ⟨q,3,.none⟩=some (.int .i64 kc)/\Y.cell? ⟨q,4,.none⟩=some (.int .i64 kf)/\Y.cell? ⟨q,6,.none⟩=some (.int .i64 oa)/\Y.cell? ⟨q,7,.none⟩=some (.int .i64 on)))
  go_region_held3 (fun Y=> Y.cell? ⟨q,0,.none⟩=some (.int .i64 sp')/\Y.cell? ⟨q,1,.none⟩=some (.int .i64 sc)/\Y.cell? ⟨q,2,.none⟩=some (.int .i64 sm)/\Y.cell? ⟨q,3,.none⟩=some (.int .i64 kc)/\Y.cell? ⟨q,4,.none⟩=some (.int .i64 kf)/\Y.cell? ⟨q,6,.none⟩=some (.int .i64 oa)/\Y.cell? ⟨q,7,.none⟩=some (.int .i64 on))
   (first | exact hS.out _ hd | exact hS.out _ h1 | exact hS.out _ (h1.alloc _) | fail)
   (first
    | (go_at_call 40;(with_reducible refine (g3.out _).mono ?_);rintro r w1 ⟨q1,rfl,hO1,hb1⟩;have h1:=hd.below hb1)
    | fail)
  go_wp2_with fail
  go_returns
  exact hfin3.out w.drew w1 q1 bd hO1 hb1
 case inr.inr.inr=>
  subst hj
  clear g1 g2 g3 hfin1 hfin2 hfin3
  go_enter Tryz.func21,Tryz.ntmps21
  go_upto_region 8 with fail
  have hd:=h.drew
  have bd:Below w.heap.size w w.drew:=br.drew
  clear lq c5 h
  have lq:q < w.drew.heap.size:=hd.lt
  have hS:=hd' (fun (Y:World) (hr:zaa Y q #[.int .i64 sp',.int .i64 sc,.int .i64 sm,.int .i64 kc,.int .i64 kf,.int .i64 4,.int .i64 oa,.int .i64 on,jv,.bool i,.bool kt,.pointer (some ⟨sp,0,.none⟩),.int .i64 ks] 55)=> (⟨hr.cell 0,hr.cell 1,hr.cell 2,hr.cell 3,hr.cell 6⟩:Y.cell? ⟨q,0,.none⟩=some (.int .i64 sp')/\Y.cell? ⟨q,1,.none⟩=some (.int .i64 sc)/\Y.cell? ⟨q,2,.none⟩=some (.int .i64 sm)/\Y.cell? ⟨q,3,.none⟩=some (.int .i64 kc)/\Y.cell? ⟨q,6,.none⟩=some (.int .i64 oa)))
  go_region_held3 (fun Y=> Y.cell? ⟨q,0,.none⟩=some (.int .i64 sp')/\Y.cell? ⟨q,1,.none⟩=some (.int .i64 sc)/\Y.cell? ⟨q,2,.none⟩=some (.int .i64 sm)/\Y.cell? ⟨q,3,.none⟩=some (.int .i64 kc)/\Y.cell? ⟨q,6,.none⟩=some (.int .i64 oa))
   (first | exact hS.out _ hd | exact hS.out _ h1 | exact hS.out _ (h1.alloc _) | fail)
   (first
    | (go_at_call 41;(with_reducible refine (g4.out _).mono ?_);rintro r w1 ⟨q1,rfl,hq1,hO1,hb1⟩;have h1:=hd.below hb1)
    | fail)
  go_wp2_with fail
  go_returns
  exact hfin4.out w.drew w1 q1 bd hq1 hO1 hb1
theorem zyq (s:Sh) (c k a n:Int) (w:World) (hk:1<=k/\k<=4):
  Calls Tryz.prog 19 #[.agg #[.int .i64 s.p,.int .i64 s.c,.int .i64 s.m],.int .i64 c,.agg #[.int .i64 k,.int .i64 a,.int .i64 n]] w fun e w'=> e= .returned (.tuple #[.int .i64 (zjw s c k a n),.bool (ziu s c k a n)])/\Below w.heap.size w w':=by
 have hc1:=fun W=> zxk s a W
 have hc2:=fun W=> zo1 n W
 have hc3:=fun W=> zau s.p s.c s.m a W
 have hc4:=fun W=> zur n W
 obtain ⟨b1,hb1,hb1'⟩:=hidv (zdl s c k a n)
 obtain ⟨b2,hb2,hb2'⟩:=hidv (zk8 s k n)
 unfold zjw ziu
 rw [<- hb1',<- hb2']
 clear hb1' hb2'
 unfold zdl at hb1
 unfold zk8 at hb2
 generalize zae s.p s.c s.m a=sx at *
 generalize spB s a=there at *
 generalize lenB n=fine at *
 generalize wi n 33 512=large at *
 generalize lenV n=ln at *
 generalize runV n=pages at *
 generalize (if there=true then a / 64 else 0)=pg at *
 generalize (if there=true then a % 64 else 0)=off at *
 obtain ⟨sp,sc,sm⟩:=s
 dsimp only at hc1 hc3 hb1 hb2 ⊢
 replace hc1:=hd' hc1
 replace hc2:=hd' hc2
 replace hc3:=hd' hc3
 replace hc4:=hd' hc4
 have hb0:=((Below.refl w.heap.size w).alloc lr (.cells #[.int .i64 sp,.int .i64 sc,.int .i64 sm] 24)).alloc (by simp) (.cells #[.int .i64 k,.int .i64 a,.int .i64 n] 30)
 have t0:zaa ((w.alloc (.cells #[.int .i64 sp,.int .i64 sc,.int .i64 sm] 24)).alloc (.cells #[.int .i64 k,.int .i64 a,.int .i64 n] 30)) w.heap.size #[.int .i64 sp,.int .i64 sc,.int .i64 sm] 24:=zaa.alloc (heap_alloc_new _ _) _
 have t1:zaa ((w.alloc (.cells #[.int .i64 sp,.int .i64 sc,.int .i64 sm] 24)).alloc (.cells #[.int .i64 k,.int .i64 a,.int .i64 n] 30)) (w.heap.size + 1) #[.int .i64 k,.int .i64 a,.int .i64 n] 30:=by
  have h:=heap_alloc_new (w.alloc (.cells #[.int .i64 sp,.int .i64 sc,.int .i64 sm] 24)) (.cells #[.int .i64 k,.int .i64 a,.int .i64 n] 30)
  rw [show (w.alloc (.cells #[.int .i64 sp,.int .i64 sc,.int .i64 sm] 24)).heap.size=w.heap.size + 1 by simp] at h
  exact h
 go_enter Tryz.func19,Tryz.ntmps19
 go_upto_region 1 with fail
 generalize (w.alloc (.cells #[.int .i64 sp,.int .i64 sc,.int .i64 sm] 24)).alloc (.cells #[.int .i64 k,.int .i64 a,.int .i64 n] 30)=X at *
 obtain ⟨G,hG,hG'⟩:∃ G,Hid (G=w.heap.size + 1)/\G=w.heap.size + 1:=⟨_,hd' rfl,rfl⟩
 simp only [<- hG'] at t1 ⊢
 clear hG'
 obtain ⟨H,hH,hH'⟩:=hidv w.heap.size
 rw [<- hH'] at t0 ⊢
 clear hH'
 obtain ⟨c0,c1,c2⟩:=ci3 sp sc sm t0.cell
 obtain ⟨d0,d1,d2⟩:=ci3 k a n t1.cell
 have lH:=t0.lt
 have lG:=t1.lt
 go_upto_region 3 with (first
  | (go_at_call 34;(with_reducible refine (hc2.out _).mono ?_);rintro r w1 ⟨rfl,hw1⟩;obtain rfl:=hw1.symm)
  | (go_at_call 35;(with_reducible refine (hc1.out _).mono ?_);rintro r w2 ⟨rfl,hb2⟩)
  | fail)
 have s0:=t0.below hb2
 have s1:=t1.below hb2
 have hbY:=zab hb0 hb2
 clear c0 c1 c2 d0 d1 d2 lH lG hb0 hb2 t0 t1
 obtain ⟨c0,c1,c2⟩:=ci3 sp sc sm s0.cell
 obtain ⟨d0,d1,d2⟩:=ci3 k a n s1.cell
 have lH:=s0.lt
 have lG:=s1.lt
 have hk4:k=1\/k=2\/k=3\/k=4:=by omega
 clear hk
 rcases hk4 with rfl | rfl | rfl | rfl
 case inl=>
  cases fine
  case false=>
   obtain rfl:b1=true:=hb1.out.trans (by simp)
   go_wp2_with fail
   go_returns
   exact ⟨rfl,hbY⟩
  case true=>
   obtain rfl:b1=false:=hb1.out.trans (by simp)
   cases large
   case false=>
    obtain rfl:b2=false:=hb2.out.trans (by simp)
    go_wp2_with (first | (go_at_call 36;(with_reducible refine (hc4.out _).mono ?_);rintro r w3 ⟨rfl,hw3⟩;obtain rfl:=hw3.symm) | fail)
    go_returns
    exact ⟨rfl,hbY⟩
   case true=>
    by_cases hp:sp < pages
    ·obtain rfl:b2=true:=hb2.out.trans (by simp [hp])
     go_wp2_with (first | (go_at_call 36;(with_reducible refine (hc4.out _).mono ?_);rintro r w3 ⟨rfl,hw3⟩;obtain rfl:=hw3.symm) | fail)
     go_returns
     exact ⟨rfl,hbY⟩
    ·obtain rfl:b2=false:=hb2.out.trans (by simp [hp])
     have hp':decide (sp < pages)=false:=decide_eq_false hp
     go_wp2_with (first | (go_at_call 36;(with_reducible refine (hc4.out _).mono ?_);rintro r w3 ⟨rfl,hw3⟩;obtain rfl:=hw3.symm) | fail)
     go_returns
     exact ⟨rfl,hbY⟩
 case inr.inl=>
  obtain rfl:b2=false:=hb2.out.trans (by simp)
  cases there
  case false=>
   obtain rfl:b1=true:=hb1.out.trans (by simp)
   go_wp2_with fail
   go_returns
   exact ⟨rfl,hbY⟩
  case true=>
   obtain rfl:b1=false:=hb1.out.trans (by simp)
   go_wp2_with (first | (go_at_call 36;(with_reducible refine (hc4.out _).mono ?_);rintro r w3 ⟨rfl,hw3⟩;obtain rfl:=hw3.symm) | fail)
   go_returns
   exact ⟨rfl,hbY⟩
 case inr.inr.inl=>
  cases fine
  case false=>
   obtain rfl:b1=true:=hb1.out.trans (by simp)
   go_wp2_with fail
   go_returns
   exact ⟨rfl,hbY⟩
  case true=>
   cases there
   case false=>
    obtain rfl:b1=true:=hb1.out.trans (by simp)
    go_wp2_with fail
    go_returns
    exact ⟨rfl,hbY⟩
   case true=>
    obtain rfl:b1=false:=hb1.out.trans (by simp)
    cases large
    case false=>
     obtain rfl:b2=false:=hb2.out.trans (by simp)
     go_wp2_with (first | (go_at_call 36;(with_reducible refine (hc4.out _).mono ?_);rintro r w3 ⟨rfl,hw3⟩;obtain rfl:=hw3.symm) | fail)
     go_returns
     exact ⟨rfl,hbY⟩
    case true=>
     by_cases hp:sp < pages
     ·obtain rfl:b2=true:=hb2.out.trans (by simp [hp])
      go_wp2_with (first | (go_at_call 36;(with_reducible refine (hc4.out _).mono ?_);rintro r w3 ⟨rfl,hw3⟩;obtain rfl:=hw3.symm) | fail)
      go_returns
      exact ⟨rfl,hbY⟩
     ·obtain rfl:b2=false:=hb2.out.trans (by simp [hp])
      have hp':decide (sp < pages)=false:=decide_eq_false hp
      go_wp2_with (first | (go_at_call 36;(with_reducible refine (hc4.out _).mono ?_);rintro r w3 ⟨rfl,hw3⟩;obtain rfl:=hw3.symm) | fail)
      go_returns
      exact ⟨rfl,hbY⟩
 case inr.inr.inr=>
  obtain rfl:b2=false:=hb2.out.trans (by simp)
  by_cases hs:sx < 0
  ·obtain rfl:b1=true:=hb1.out.trans (by simp [hs])
   go_wp2_with (first | (go_at_call 14;(with_reducible refine (hc3.out _).mono ?_);rintro r w3 ⟨rfl,hb3⟩) | fail)
   go_returns
   exact ⟨rfl,zab hbY hb3⟩
  ·have hs':decide (sx < 0)=false:=decide_eq_false hs
   by_cases hac:a=c
   ·subst hac
    obtain rfl:b1=true:=hb1.out.trans (by simp)
    go_wp2_with (first | (go_at_call 14;(with_reducible refine (hc3.out _).mono ?_);rintro r w3 ⟨rfl,hb3⟩;have e1:=zai hb3 _ _ _ d1;have e0:=zai hb3 _ _ _ d0) | fail)
    go_returns
    exact ⟨rfl,zab hbY hb3⟩
   ·have hac':(a==c)=false:=by simpa using hac
    obtain rfl:b1=false:=hb1.out.trans (by simp [hs,hac'])
    go_wp2_with (first
     | (go_at_call 14;(with_reducible refine (hc3.out _).mono ?_);rintro r w3 ⟨rfl,hb3⟩;have e1:=zai hb3 _ _ _ d1;have e0:=zai hb3 _ _ _ d0;have e2:=zai hb3 _ _ _ d2)
     | (go_at_call 36;(with_reducible refine (hc4.out _).mono ?_);rintro r w4 ⟨rfl,hw4⟩;obtain rfl:=hw4.symm) | fail)
    go_returns
    exact ⟨rfl,zab hbY hb3⟩
theorem z8b {F:Nat->Prop} {w:World} {v:Value} {s:Sh} {cl:Int} {j:Jb} (h:JbO F w v s cl j):∃ T x,v= .iface T x:=by
 cases j <;> (obtain ⟨q,e,_⟩:=h;exact ⟨_,_,e⟩)
structure zyn (F:Nat->Prop) (q:Nat) (w w':World) (r:Ending) (s:Sh) (k:Kl) (o:Op3):Prop where
 ret:∃ v,r= .returned (.tuple #[v,.int .i64 (k.invoke s o).2.2])/\w'.ownsRow w.heap.size 37 8 v (k.invoke s o).2.1.length ((k.invoke s o).2.1.flatMap fun e=> e.cells.toList)
 kl:KlO (grow F w w') w' q s (k.invoke s o).1
 only:Only F w w'
 kl0:(k.invoke s o).1.job=none->KlO F w' q s (k.invoke s o).1
theorem zv4 {F:Nat->Prop} {q:Nat} {s:Sh} {k:Kl} {o:Op3} {w:World} (h:KlO F w q s k) (hn:k.rests=false\/(k.rests=true/\(o.k < 1\/4 < o.k))):
  Calls Tryz.prog 7 #[.pointer (some ⟨q,0,.none⟩),.agg #[.int .i64 o.k,.int .i64 o.a,.int .i64 o.n]] w fun r w'=> zyn F q w w' r s k o:=by
 obtain ⟨ok,oa,on⟩:=o
 dsimp only at hn ⊢
 have hb0:=(Below.refl w.heap.size w).alloc lr (.cells #[.int .i64 ok,.int .i64 oa,.int .i64 on] 30)
 have hH:zaa (w.alloc (.cells #[.int .i64 ok,.int .i64 oa,.int .i64 on] 30)) w.heap.size #[.int .i64 ok,.int .i64 oa,.int .i64 on] 30:=heap_alloc_new _ _
 have hre:=(h.below hb0).rests
 have hfin:Hid (∀ W x,Below w.heap.size w W->k.invoke s ⟨ok,oa,on⟩=(k, [],x)->zyn F q w W (.returned (.tuple #[.slice none 0 0,.int .i64 x])) s k ⟨ok,oa,on⟩):=hd' fun W x hb hr=> by
  refine ⟨⟨_,by rw [hr],?_⟩,?_,Only.of_below hb,fun _=> by rw [hr];exact h.below hb⟩
  ·rw [hr];exact zel _ _
  ·rw [hr];exact (h.below hb).weak (fun b hb=> .inl hb) (zec h.lt hb.size)
 have hnil:∀ W:World,(binOp .eql 25 (.pointer (some ⟨q,0,.none⟩)) (.pointer none)).run Tryz.prog W= .ok (.bool false) W:=fun W=> by kernel_rfl
 have hcs:(k.rests=false/\k.invoke s ⟨ok,oa,on⟩=(k, [],4))\/(k.rests=true/\ok < 1/\k.invoke s ⟨ok,oa,on⟩=(k, [],1))\/(k.rests=true/\decide (ok < 1)=false/\4 < ok/\k.invoke s ⟨ok,oa,on⟩=(k, [],1)):=by
  rcases hn with hn | ⟨hn,hk⟩
  ·exact .inl ⟨hn,by unfold Kl.invoke;rw [if_pos hn]⟩
  ·have e:k.invoke s ⟨ok,oa,on⟩=(k, [],1):=by unfold Kl.invoke;rw [if_neg (by rw [hn];decide),if_pos hk]
   by_cases h1:ok < 1
   ·exact .inr (.inl ⟨hn,h1,e⟩)
   ·exact .inr (.inr ⟨hn,decide_eq_false h1,by omega,e⟩)
 clear hn h
 rcases hcs with ⟨hr,he⟩ | ⟨hr,h1,he⟩ | ⟨hr,h1,h2,he⟩
 all_goals
  rw [hr] at hre
  replace hre:=hd' hre
  replace he:=hd' he
  clear hr
  go_enter Tryz.func7,Tryz.ntmps7
  go_upto_region 1 with fail
  generalize w.alloc (.cells #[.int .i64 ok,.int .i64 oa,.int .i64 on] 30)=X at *
  obtain ⟨H,hHH,hHH'⟩:=hidv w.heap.size
  rw [<- hHH'] at hH ⊢
  clear hHH'
  have lH:H < X.heap.size:=hH.lt
  have c0:=ci ok (hH.cell 0)
  go_wp2_with (first | (go_at_call 17;(with_reducible refine hre.out.mono ?_);rintro r w1 ⟨rfl,hw1⟩;obtain rfl:=hw1.symm) | fail)
  go_returns
  exact hfin.out _ _ hb0 he.out
theorem z4b {F:Nat->Prop} {q:Nat} {s:Sh} {k:Kl} {o:Op3} {w:World} (h:KlO F w q s k) (hj:k.job=none) (hk:1<=o.k/\o.k<=4):
  Calls Tryz.prog 7 #[.pointer (some ⟨q,0,.none⟩),.agg #[.int .i64 o.k,.int .i64 o.a,.int .i64 o.n]] w fun r w'=> zyn F q w w' r s k o:=by
 have hrs:k.rests=true:=by unfold Kl.rests;rw [hj];rfl
 have hinv:k.invoke s o=if ziu s k.c o.k o.a o.n=true then ({ k with op:=o,told:=false,steps:=0 }, [zbh k.c o,zaf k.c o 0 (zjw s k.c o.k o.a o.n)],0) else ({ k with op:=o,told:=false,steps:=0,job:=some (zgl s k.c k.first o.k o.a o.n) }, [zbh k.c o],0):=by
  unfold Kl.invoke
  rw [if_neg (by rw [hrs];decide),if_neg (by omega)]
 have hb0:=(Below.refl w.heap.size w).alloc lr (.cells #[.int .i64 o.k,.int .i64 o.a,.int .i64 o.n] 30)
 have hH:zaa (w.alloc (.cells #[.int .i64 o.k,.int .i64 o.a,.int .i64 o.n] 30)) w.heap.size #[.int .i64 o.k,.int .i64 o.a,.int .i64 o.n] 30:=heap_alloc_new _ _
 have hre:=(h.below hb0).rests
 rw [hrs] at hre
 replace hre:=hd' hre
 have hnil:∀ W:World,(binOp .eql 25 (.pointer (some ⟨q,0,.none⟩)) (.pointer none)).run Tryz.prog W= .ok (.bool false) W:=fun W=> by kernel_rfl
 obtain ⟨hF,hq,sp,sl,jv,G,hrow,hstk,hft,hG,_,_⟩:=h
 have hi:(!k.job.isSome)=true:=by rw [hj];rfl
 rw [hi] at hrow
 have hfr:zdv k= []:=by unfold zdv;rw [hj]
 rw [hfr] at hstk
 have hlt:∀ i,(i=q\/foot sp sl i)->i < w.heap.size:=fun i hi=> by rcases hi with rfl | hi;exact hF _ hq;exact hF i (hft i hi).1
 have honce:=fun W=> zyq s k.c o.k o.a o.n W hk
 have hstart:=fun (W:World) (i:Bool) (jv:Value) (hr:zaa W q (zat s { k with op:=o,told:=false,steps:=0 } i jv (.pointer (some ⟨sp,0,.none⟩))) 55)=> zue (k:= { k with op:=o,told:=false,steps:=0 }) hr hk
 have hend1:=hd' (fun (W:World) (v:Value) (hB:ziu s k.c o.k o.a o.n=true) (hr:zaa W q (zat s { k with op:=o,told:=false,steps:=0 } true .nilIface (.pointer (some ⟨sp,0,.none⟩))) 55) (hs:SK 0 W sp (.slice none 0 0) 1 []) (ho:Only F w W) (hv:W.ownsRow w.heap.size 37 8 v 2 ((zbh k.c o).cells.toList ++ (zaf k.c o 0 (zjw s k.c o.k o.a o.n)).cells.toList))=> (by
  rw [if_pos hB] at hinv
  have h0:KlO F W q s { k with op:=o,told:=false,steps:=0 }:=by
   refine ⟨fun i hi=> Nat.lt_of_lt_of_le (hF i hi) ho.size,hq,sp,.slice none 0 0,.nilIface,fun _=> False,?_,?_,fun i hi=> ?_,fun i hi=> hi.elim,fun _=> rfl,fun x hx=> ?_⟩
   ·have e:(!k.job.isSome)=true:=hi
    show zaa W q (zat s _ (!k.job.isSome) _ _) _
    rw [e];exact hr
   ·have e:zdv { k with op:=o,told:=false,steps:=0 }= []:=by unfold zdv;rw [show ({ k with op:=o,told:=false,steps:=0 }:Kl).job=none from hj]
    rw [e];exact hs
   ·rcases hi with rfl | hi
    ·exact ⟨(hft _ (.inl rfl)).1,(hft _ (.inl rfl)).2⟩
    ·cases hi
   ·have hx:k.job=some x:=hx
    rw [hj] at hx;exact absurd hx (fun e=> by cases e)
  exact ⟨⟨v,by rw [hinv],by rw [hinv];exact hv⟩,by rw [hinv];exact h0.weak (fun _ hi=> .inl hi) (zec hF ho.size),ho,fun _=> by rw [hinv];exact h0⟩:zyn F q w W (.returned (.tuple #[v,.int .i64 0])) s k o))
 have hend2:=hd' (fun (W:World) (v jv sl':Value) (H:Nat->Prop) (hB:ziu s k.c o.k o.a o.n=false) (hr:zaa W q (zat s { k with op:=o,told:=false,steps:=0 } false jv (.pointer (some ⟨sp,0,.none⟩))) 55) (hs:SK 0 W sp sl' 1 [⟨o.k,0, [o.a,o.n,0,0,0,0,0,0]⟩]) (hsl:∀ i,foot sp sl' i->foot sp sl i\/(w.heap.size<=i/\i < W.heap.size)) (hH:∀ i,H i->w.heap.size<=i/\i < W.heap.size) (hd:∀ i,H i->¬ foot sp sl' i) (hJ:JbO H W jv s k.c (zgl s k.c k.first o.k o.a o.n)) (ho:Only F w W) (hv:W.ownsRow w.heap.size 37 8 v 1 (zbh k.c o).cells.toList)=> (by
  rw [if_neg (by rw [hB];decide)] at hinv
  refine ⟨⟨v,by rw [hinv],?_⟩,?_,ho,fun e=> by rw [hinv] at e;exact absurd e (fun e=> by cases e)⟩
  ·rw [hinv];exact hv
  ·rw [hinv]
   refine ⟨zec hF ho.size,.inl hq,sp,sl',jv,H,hr,hs,fun i hi=> ?_,fun i hi=> ⟨.inr (hH i hi),fun e=> by have:=hlt i (.inl e);have:=hH i hi;omega,hd i hi⟩,fun e=> (by cases e),fun x hx=> ?_⟩
   ·rcases hsl i hi with hh | hh
    ·exact ⟨.inl (hft i hh).1,(hft i hh).2⟩
    ·exact ⟨.inr hh,fun e=> by have:=hlt i (.inl e);omega⟩
   ·injection hx with hx
    subst hx
    exact hJ:zyn F q w W (.returned (.tuple #[v,.int .i64 0])) s k o))
 clear hinv hrs hi hfr hj
 have hrowX:=hrow.below hb0
 have hstkX:=hstk.below hb0
 generalize honceB:ziu s k.c o.k o.a o.n=ob at *
 generalize zjw s k.c o.k o.a o.n=oe at *
 obtain ⟨ok,oa,on⟩:=o
 obtain ⟨kc,kf,⟨ok',oa',on'⟩,kj,kt,ks⟩:=k
 dsimp only at honce hstart hend1 hend2 ⊢
 generalize zgl s kc kf ok oa on=jn at *
 obtain ⟨sp',sc,sm⟩:=s
 dsimp only [zat] at hrowX hstart hend1 hend2 honce
 clear hrow hstk honceB
 go_enter Tryz.func7,Tryz.ntmps7
 go_upto_region 1 with fail
 generalize w.alloc (.cells #[.int .i64 ok,.int .i64 oa,.int .i64 on] 30)=X at *
 obtain ⟨H,hHH,hHH'⟩:=hidv w.heap.size
 rw [<- hHH'] at hH ⊢
 have hHw:w.heap.size<=H:=by omega
 clear hHH'
 have lH:H < X.heap.size:=hH.lt
 obtain ⟨c0,c1,c2⟩:=ci3 ok oa on hH.cell
 have hk1:decide (ok < 1)=false:=decide_eq_false (by have:1<=ok:=hk.1;omega)
 have hk2:decide (4 < ok)=false:=decide_eq_false (by have:ok<=4:=hk.2;omega)
 have lqX:q < X.heap.size:=hrowX.lt
 have fX:=zax hrowX
 have x5:=ci ok' (hrowX.cell 5)
 have x6:=ci oa' (hrowX.cell 6)
 have x7:=ci on' (hrowX.cell 7)
 have x9:=ce (.bool true) (hrowX.cell 9)
 have x10:=ce (.bool kt) (hrowX.cell 10)
 have x12:=ci ks (hrowX.cell 12)
 have hqH:H≠q:=fun e=> by have:=hlt q (.inl rfl);omega
 go_upto_region 8 with (first | (go_at_call 17;(with_reducible refine hre.out.mono ?_);rintro r w1 ⟨rfl,hw1⟩;obtain rfl:=hw1.symm) | fail)
 have hrow2:zaa ((((((X.setCell ⟨q,5,.none⟩ (.int .i64 ok)).setCell ⟨q,6,.none⟩ (.int .i64 oa)).setCell ⟨q,7,.none⟩ (.int .i64 on)).setCell ⟨q,9,.none⟩ (.bool false)).setCell ⟨q,10,.none⟩ (.bool false)).setCell ⟨q,12,.none⟩ (.int .i64 0)) q #[.int .i64 sp',.int .i64 sc,.int .i64 sm,.int .i64 kc,.int .i64 kf,.int .i64 ok,.int .i64 oa,.int .i64 on,jv,.bool false,.bool false,.pointer (some ⟨sp,0,.none⟩),.int .i64 0] 55:=((((((hrowX.set 5 (.int .i64 ok)).set 6 (.int .i64 oa)).set 7 (.int .i64 on)).set 9 (.bool false)).set 10 (.bool false)).set 12 (.int .i64 0))
 have oq:Only (fun i=> i=q) X ((((((X.setCell ⟨q,5,.none⟩ (.int .i64 ok)).setCell ⟨q,6,.none⟩ (.int .i64 oa)).setCell ⟨q,7,.none⟩ (.int .i64 on)).setCell ⟨q,9,.none⟩ (.bool false)).setCell ⟨q,10,.none⟩ (.bool false)).setCell ⟨q,12,.none⟩ (.int .i64 0)):=Only.setCell (F:=fun i=> i=q) (Only.setCell (F:=fun i=> i=q) (Only.setCell (F:=fun i=> i=q) (Only.setCell (F:=fun i=> i=q) (Only.setCell (F:=fun i=> i=q) (Only.setCell (F:=fun i=> i=q) (Only.refl _ _) (.inl rfl) _) (.inl rfl) _) (.inl rfl) _) (.inl rfl) _) (.inl rfl) _) (.inl rfl) _
 have hstk2:=oq.stk hstkX (fun i hi e=> (hft i hi).2 e)
 have hH2:=hH.only oq hqH
 have on2:Only (fun i=> i=q\/foot sp sl i) w ((((((X.setCell ⟨q,5,.none⟩ (.int .i64 ok)).setCell ⟨q,6,.none⟩ (.int .i64 oa)).setCell ⟨q,7,.none⟩ (.int .i64 on)).setCell ⟨q,9,.none⟩ (.bool false)).setCell ⟨q,10,.none⟩ (.bool false)).setCell ⟨q,12,.none⟩ (.int .i64 0)):=(Only.of_below hb0).trans oq (fun i _ hi=> .inl hi)
 have hsz:=oq.size
 generalize ((((((X.setCell ⟨q,5,.none⟩ (.int .i64 ok)).setCell ⟨q,6,.none⟩ (.int .i64 oa)).setCell ⟨q,7,.none⟩ (.int .i64 on)).setCell ⟨q,9,.none⟩ (.bool false)).setCell ⟨q,10,.none⟩ (.bool false)).setCell ⟨q,12,.none⟩ (.int .i64 0))=w2 at *
 clear hrowX hstkX hH hb0 lH c0 c1 c2 hk1 hk2 lqX fX x5 x6 x7 x9 x10 x12 hre oq
 have hbX:w.heap.size<=w2.heap.size:=on2.size
 have lq2:q < w2.heap.size:=hrow2.lt
 have lH2:H < w2.heap.size:=hH2.lt
 have bA:Below w2.heap.size w2 (w2.alloc (.cells #[.int .i64 oa,.int .i64 on] 2)).drew:=(br.alloc lr _).drew
 have hA:zaa (w2.alloc (.cells #[.int .i64 oa,.int .i64 on] 2)).drew w2.heap.size #[.int .i64 oa,.int .i64 on] 2:=zaa.drew (heap_alloc_new _ _)
 have hpush:Calls Tryz.prog 18 #[.pointer (some ⟨sp,0,.none⟩),.int .i64 ok,.slice (some ⟨w2.heap.size,0,.none⟩) 2 2] (w2.alloc (.cells #[.int .i64 oa,.int .i64 on] 2)).drew fun e w'=> e= .returned (.bool true)/\Only (foot sp sl) (w2.alloc (.cells #[.int .i64 oa,.int .i64 on] 2)).drew w'/\∃ sl',(∀ k,sl'.ownBlock=some k->sl.ownBlock=some k\/(w2.alloc (.cells #[.int .i64 oa,.int .i64 on] 2)).drew.heap.size<=k)/\SK 0 w' sp sl' 1 [⟨ok,0, [oa,on,0,0,0,0,0,0]⟩]:=zt0 (w:=(w2.alloc (.cells #[.int .i64 oa,.int .i64 on] 2)).drew) (code:=ok) (ao:=some ⟨w2.heap.size,0,.none⟩) (zs:= [oa,on]) (cap:=2) (hstk2.below bA) (by simp) (by simp) (Nat.zero_le _) (by decide) (fun a ha j v hv=> by
  injection ha with ha
  subst ha
  rw [zqn,Nat.zero_add,hA.cell j]
  rcases j with _ | _ | j
  ·exact hv
  ·exact hv
  ·simp at hv) (fun e=> by cases e)
 replace hpush:=hd' hpush
 have hrow2d:=hrow2.drew
 have hH2d:=hH2.drew
 have hrowA:=hrow2.below bA
 have hHA:=hH2.below bA
 have hS:=hd' (fun (Y:World) (hr:zaa Y q #[.int .i64 sp',.int .i64 sc,.int .i64 sm,.int .i64 kc,.int .i64 kf,.int .i64 ok,.int .i64 oa,.int .i64 on,jv,.bool false,.bool false,.pointer (some ⟨sp,0,.none⟩),.int .i64 0] 55) (hb:zaa Y H #[.int .i64 ok,.int .i64 oa,.int .i64 on] 30)=> (⟨hr.cell 11,hb.cell 0,hb.cell 1,hb.cell 2⟩:Y.cell? ⟨q,11,.none⟩=some (.pointer (some ⟨sp,0,.none⟩))/\Y.cell? ⟨H,0,.none⟩=some (.int .i64 ok)/\Y.cell? ⟨H,1,.none⟩=some (.int .i64 oa)/\Y.cell? ⟨H,2,.none⟩=some (.int .i64 on)))
 have hqf:¬ foot sp sl q:=fun e=> (hft q e).2 rfl
 have hHf:¬ foot sp sl H:=fun e=> by have:=hlt H (.inr e);omega
 go_region_held3 (fun Y=> Y.cell? ⟨q,11,.none⟩=some (.pointer (some ⟨sp,0,.none⟩))/\Y.cell? ⟨H,0,.none⟩=some (.int .i64 ok)/\Y.cell? ⟨H,1,.none⟩=some (.int .i64 oa)/\Y.cell? ⟨H,2,.none⟩=some (.int .i64 on))
  (first | exact hS.out _ hrow2d hH2d | exact hS.out _ hrowA hHA | exact hS.out _ (hrow2d.alloc _) (hH2d.alloc _) | exact hS.out _ hrow3 hH3 | fail)
  (first
   | (go_at_call 18;(with_reducible refine hpush.out.mono ?_);rintro r w3 ⟨rfl,on3,sl',hsl3,hstk3⟩;have hrow3:=hrowA.only on3 hqf;have hH3:=hHA.only on3 hHf)
   | fail)
 have on3w:Only (fun i=> i=q\/foot sp sl i) w w3:=(on2.trans (Only.of_below (F:=fun _=> False) bA) (fun _ _ hh=> hh.elim)).trans on3 (fun i _ hi=> .inr hi)
 have hsl4:∀ i,foot sp sl' i->foot sp sl i\/(w.heap.size<=i/\i < w3.heap.size):=fun i hi=> by
  rcases hi with rfl | hi
  ·exact .inl (.inl rfl)
  ·rcases hsl3 i hi with hh | hh
   ·exact .inl (.inr hh)
   ·have h1:=bA.size
    exact .inr ⟨by omega,(hstk3.zem i hi).2⟩
 clear hrow2 hstk2 hH2 on2 hsz hbX lq2 lH2 bA hA hpush hrow2d hH2d hrowA hHA hS on3 hsl3 hHf hqf
 go_upto_region 9 with fail
 have hbX:w.heap.size<=w3.heap.size:=on3w.size
 have lq3:q < w3.heap.size:=hrow3.lt
 have lH3:H < w3.heap.size:=hH3.lt
 obtain ⟨c0,c1,c2⟩:=ci3 ok oa on hH3.cell
 have c3:=ci kc (hrow3.cell 3)
 refine zad 6 (by kernel_rfl) (by kernel_rfl) ?_
 dsimp only [List.take,List.drop]
 repeat (go_big_quiet_step (fail))
 refine wpQuiet_nil ?_
 rintro _ ⟨e',rfl⟩
 have hrow4:=hrow3.below e'.below
 have hstk4:=hstk3.below e'.below
 have hH4:=hH3.below e'.below
 have on4:=on3w.trans (Only.of_below (F:=fun _=> False) e'.below) (fun _ _ hh=> hh.elim)
 have hs4:=e'.below.size
 generalize e'.w=w4 at *
 change wpList _ _ _ _ _ w4
 clear hrow3 hstk3 hH3 on3w lq3 lH3 c0 c1 c2 c3
 go_upto_region 10 with fail
 have hbV:Below w4.heap.size w4 (w4.alloc (.cells (zbh kc ⟨ok,oa,on⟩).cells 37)):=br.alloc lr _
 have hown5:(w4.alloc (.cells (zbh kc ⟨ok,oa,on⟩).cells 37)).ownsRow w.heap.size 37 8 (.slice (some ⟨w4.heap.size,0,.none⟩) 1 1) 1 (zbh kc ⟨ok,oa,on⟩).cells.toList:=World.ownsRow_lit w4 (zbh kc ⟨ok,oa,on⟩).cells 1 (by omega) (by decide) rfl
 have hrow5:=hrow4.below hbV
 have hstk5:=hstk4.below hbV
 have hH5:=hH4.below hbV
 have on5:=on4.trans (Only.of_below (F:=fun _=> False) hbV) (fun _ _ hh=> hh.elim)
 have hs5:w4.heap.size < (w4.alloc (.cells (zbh kc ⟨ok,oa,on⟩).cells 37)).heap.size:=by rw [size_alloc];omega
 dsimp only [zbh,Ev.cells] at hrow5 hstk5 hH5 on5 hown5 hs5
 generalize w4.alloc (.cells #[.int .i64 2,.int .i64 kc,.int .i64 ok,.int .i64 oa,.int .i64 on,.int .i64 0,.int .i64 0,.int .i64 0] 37)=w5 at *
 clear hrow4 hstk4 hH4 on4 hbV
 obtain ⟨B,hBB,hBB'⟩:=hidv w4.heap.size
 rw [<- hBB'] at hown5 hs5 ⊢
 have hBw:w.heap.size<=B:=by omega
 have hB3:w3.heap.size<=B:=by omega
 clear hBB' hBB
 have hbX5:w.heap.size<=w5.heap.size:=on5.size
 have hsl5:∀ i,foot sp sl' i->foot sp sl i\/(w.heap.size<=i/\i < B):=fun i hi=> by
  rcases hsl4 i hi with hh | hh
  ·exact .inl hh
  ·exact .inr ⟨hh.1,by omega⟩
 have lq5:q < w5.heap.size:=hrow5.lt
 have lH5:H < w5.heap.size:=hH5.lt
 obtain ⟨c0,c1,c2⟩:=ci3 ok oa on hH5.cell
 obtain ⟨q0,q1,q2,q3⟩:=ci4 sp' sc sm kc hrow5.cell
 replace honce:=hd' honce
 refine zaj (by kernel_rfl) (by kernel_rfl) ?_
 repeat (go_big_quiet_step ((first | (go_at_call 19;exact zam (honce.out _)) | fail)))
 refine wpQuiet_nil ?_
 rintro _ ⟨e',rfl⟩
 have hrow6:=hrow5.below e'.below
 have hstk6:=hstk5.below e'.below
 have on6:=on5.trans (Only.of_below (F:=fun _=> False) e'.below) (fun _ _ hh=> hh.elim)
 have hown6:=zav hown5 e'.below
 have hs6:=e'.below.size
 generalize e'.w=w6 at *
 clear hrow5 hstk5 on5 hown5 c0 c1 c2 q0 q1 q2 q3 lq5 lH5 honce hH5
 obtain ⟨i0,hi0,hz0,hz1,hz2⟩:=info_parts zdb
 have hqf:¬ foot sp sl' q:=fun e=> by
  rcases hsl5 q e with hh | hh
  ·exact (hft q hh).2 rfl
  ·have:=hlt q (.inl rfl);omega
 have hBf:¬ foot sp sl' B:=fun e=> by
  rcases hsl5 B e with hh | hh
  ·have:=hlt B (.inr hh);omega
  ·omega
 have hqB:B≠q:=fun e=> by have:=hlt q (.inl rfl);omega
 cases ob
 case true=>
  have cans:=zbn (s:=⟨sp',sc,sm⟩) (k:=⟨kc,kf,⟨ok,oa,on⟩,kj,false,0⟩) (i:=false) (jv:=jv) oe 0 hrow6 hstk6 hqf
  dsimp only [zat,Ev.val,Ev.cells,zaf] at cans
  replace cans:=hd' cans
  have hbX6:w.heap.size<=w6.heap.size:=on6.size
  go_wp2_with (first
   | (go_at_call 20;(with_reducible refine cans.out.mono ?_);rintro r w8 ⟨rfl,h8,hs8,on8⟩;have hown8:=zas hown6 (fun i hi=> on8.block i (hown6.lt i hi).2 (fun e=> by (have:B=i:=by injection hi);subst this;exact e.elim hqB hBf));have hbw8:w.heap.size<=w8.heap.size:=Nat.le_trans hbX6 on8.size)
   | (refine zay rfl (.tmp 71) (.tmp 75) 32 rfl w.heap.size 37 i0 _ 8 64 Tryz.underlying32 hi0 hz0 hz1 hz2 rfl (by omega) _ 1 (zbh kc ⟨ok,oa,on⟩).cells.toList rfl (zav hown8 (br.alloc lr _)) _ 1 (zaf kc ⟨ok,oa,on⟩ 0 oe).cells.toList rfl (evRd (zaf kc ⟨ok,oa,on⟩ 0 oe) _) (zfo _) (by simp only [maxLen];omega) (by omega) (by simp;omega) ?_;intro v9 w9 hown9 hgrow9 hat9;have hb9:=zaw ((Below.refl w.heap.size w8).alloc hbw8 (.cells (zaf kc ⟨ok,oa,on⟩ 0 oe).cells 37)) (zav hown8 (br.alloc lr _)) (by simp;omega) hgrow9)
   | fail)
  go_returns
  have lq:=hlt q (.inl rfl)
  have on9:Only (fun i=> i=q\/foot sp sl i) w w9:=zfp (on6.trans on8 (fun i hi hh=> by
   rcases hh with hh | hh
   ·exact .inl hh
   ·rcases hsl5 i hh with e | e
    ·exact .inr e
    ·omega)) hb9
  exact hend1.out w9 v9 trivial (h8.belB hb9 lq) ((zdy hb9).stk hs8 (fun i hi e=> by
   rcases hi with rfl | hi
   ·have:=hlt _ (.inr (.inl rfl));omega
   ·cases hi)) (on9.weak (fun i hi=> by
   rcases hi with rfl | hi
   ·exact hq
   ·exact (hft i hi).1)) hown9
 case false=>
  have hst:=hd' (hstart w6 false jv hrow6)
  have l6:q < w6.heap.size:=hrow6.lt
  clear hend1 hstart
  go_wp2_with (first
   | (go_at_call 21;(with_reducible refine hst.out.mono ?_);rintro r w7 ⟨jv2,rfl,hJ7,hb7⟩;obtain ⟨T2,x2,rfl⟩:=z8b hJ7;have hrow7:=hrow6.below hb7;have z8:=ce jv (hrow7.cell 8);have zf:=zax hrow7;have l7:=hrow7.lt)
   | fail)
  go_returns
  have lq:=hlt q (.inl rfl)
  have hs7:=hb7.size
  have hW:(w7.setCell ⟨q,8,.none⟩ (.iface T2 x2)).heap.size=w7.heap.size:=size_set _ _ _
  have oq:Only (fun i=> i=q) w7 (w7.setCell ⟨q,8,.none⟩ (.iface T2 x2)):=Only.setCell (F:=fun i=> i=q) (Only.refl _ _) (.inl rfl) _
  refine hend2.out _ _ (.iface T2 x2) sl' (fun i=> w6.heap.size<=i/\i < w7.heap.size) trivial (hrow7.set 8 (.iface T2 x2)) (oq.stk (hstk6.below hb7) (fun i hi e=> hqf (e ▸ hi))) (fun i hi=> ?_) (fun i hi=> ⟨Nat.le_trans on6.size hi.1,by rw [hW];exact hi.2⟩) (fun i hi e=> ?_) (hJ7.only oq (fun i hi e=> by omega)) ?_ ?_
  ·rcases hsl5 i hi with hh | hh
   ·exact .inl hh
   ·exact .inr ⟨hh.1,by omega⟩
  ·rcases hsl5 i e with hh | hh
   ·have:=hlt i (.inr hh);have:=on6.size;omega
   ·omega
  ·refine ((on6.trans (Only.of_below (F:=fun _=> False) hb7) (fun _ _ hh=> hh.elim)).trans oq (fun i _ hh=> .inl hh)).weak (fun i hi=> ?_)
   rcases hi with rfl | hi
   ·exact hq
   ·exact (hft i hi).1
  ·exact zkk (zav hown6 hb7) oq (fun i hi e=> by omega)
theorem z3l {F:Nat->Prop} {q:Nat} {s:Sh} {k:Kl} {o:Op3} {w:World} (h:KlO F w q s k):
  Calls Tryz.prog 7 #[.pointer (some ⟨q,0,.none⟩),.agg #[.int .i64 o.k,.int .i64 o.a,.int .i64 o.n]] w fun r w'=> zyn F q w w' r s k o:=by
 rcases hj:k.job with _ | j
 ·have hr:k.rests=true:=by unfold Kl.rests;rw [hj];rfl
  by_cases hk:1<=o.k/\o.k<=4
  ·exact z4b h hj hk
  ·exact zv4 h (.inr ⟨hr,by omega⟩)
 ·have hr:k.rests=false:=by unfold Kl.rests;rw [hj];rfl
  exact zv4 h (.inl hr)
end

section

open Go.RowKit Fl

theorem ye8 (x y:Nat):FloatKind.f64.format.order x y=Ieee.double.order x y:=rfl
abbrev F64 (x:Nat):Value:= .float .f64 x
theorem z7u (x:Nat) (w:World):(Op.unary UnOp.neg (.float .f64 x)).run Tryz.prog w= .ok (.float .f64 (x ^^^ 2 ^ 63)) w:=rfl
theorem z2t (x:Nat) (w:World):Calls Tryz.prog 47 #[F64 x] w fun e w'=> e= .returned (.bool (nan x))/\w'=w:=by
 go_enter Tryz.func47,Tryz.ntmps47
 go_wp2
 go_ret
 refine ⟨zg6 ?_,rfl⟩
 rw [ye8,bne,zq7,Fl.yax,Bool.not_not]
theorem zp1 (x:Nat) (w:World):Calls Tryz.prog 48 #[F64 x,.int .i64 (-1)] w fun e w'=> e= .returned (.bool (decide (zg4 x=1)))/\w'=w:=by
 have hn:=z7u x
 go_enter Tryz.func48,Tryz.ntmps48
 go_wp2
 go_ret
 refine ⟨zg6 ?_,rfl⟩
 rw [<- z18,<- zma];rfl
theorem zps (x:Nat) (w:World):Calls Tryz.prog 48 #[F64 x,.int .i64 1] w fun e w'=> e= .returned (.bool (decide (zg4 x=5)))/\w'=w:=by
 go_enter Tryz.func48,Tryz.ntmps48
 go_wp2
 go_ret
 refine ⟨zg6 ?_,rfl⟩
 rw [<- zsg,<- zma];rfl
theorem lt0 (x:Nat):(FloatKind.f64.format.order x 0==some .lt)=(!nan x && decide (iv x < 0)):=(z5e x 0).trans (yce x)
theorem gt0 (x:Nat):(FloatKind.f64.format.order x 0==some .gt)=(!nan x && decide (0 < iv x)):=(zma x 0).trans (z9v x)
theorem zhn (x:Nat) (w:World):Calls Tryz.prog 32 #[F64 x] w fun e w'=> e= .returned (.int .i64 (zg4 x))/\w'=w:=by
 have hlt:=lt0 x
 have hgt:=gt0 x
 go_enter Tryz.func32,Tryz.ntmps32
 go_wp2_with (first
  | (go_at_call 47;refine (z2t _ _).mono ?_;rintro e w1 ⟨rfl,rfl⟩)
  | (go_at_call 48;(with_reducible refine (zp1 _ _).mono ?_);rintro e w1 ⟨rfl,rfl⟩)
  | (go_at_call 48;(with_reducible refine (zps _ _).mono ?_);rintro e w1 ⟨rfl,rfl⟩))
 all_goals go_ret
 all_goals refine ⟨zf5 ?_,rfl⟩
 all_goals clear hlt hgt
 all_goals first
  | exact (zst.2 (by assumption)).symm
  | (have h:=z4r (x:=x) (by assumption);have hI:(0:Int) < (INF:Int):=(by decide);omega)
theorem gtxy (x y:Nat):(FloatKind.f64.format.order x y==some .gt)=gtB x y:=zma x y
theorem eqxy (x y:Nat):(FloatKind.f64.format.order x y==some .eq)=eqB x y:=zq7 x y
end

section

open Go.RowKit Fl

end

end Go.Proofs.YthgekdlegbmehaaGreat

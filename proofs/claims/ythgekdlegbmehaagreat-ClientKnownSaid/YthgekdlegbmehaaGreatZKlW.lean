/- The closed law of the client: its walk. -/
import Derived.Test.YthgekdlegbmehaaGreatZKlCl

import Derived.Test.YthgekdlegbmehaaGreatZKlAw

import Derived.Test.YthgekdlegbmehaaGreatZKlSt

import Derived.Test.YthgekdlegbmehaaGreatZKlFi

set_option linter.all false
set_option maxHeartbeats 4000000
set_option maxRecDepth 100000
namespace Go.Proofs.YthgekdlegbmehaaGreat

open Go.RowKit

attribute [local go_sem ↓] Go.wp_at_zero Go.wp_at_succ

theorem loGrow {F:Nat->Prop} {N:Nat} {W W':World} (h:∀ i,F i->N<=i) (hN:N<=W.heap.size):∀ i,grow F W W' i->N<=i:=fun i hi=> by
 rcases hi with hi | hi
 ·exact h i hi
 ·omega
theorem clientKnown_any (w:World):Calls Tryz.prog 3 #[] w fun e w'=> e= .returned (.bool true)/\Below w.heap.size w w':=by
 obtain ⟨N,hN,hN'⟩:=hidv w.heap.size
 have hNw:N<=w.heap.size:=Nat.le_of_eq hN'
 rw [<- hN']
 clear hN'
 have haw:=hd' (fun W=> awake20 W)
 have hnw:=hd' (fun W=> kn_new W)
 have hni:=hd' (fun W=> kn_nil W)
 have hfl:=hd' (fun W=> kn_fill W)
 have hne:∀ (q:Nat) (W:World),(binOp .eql 25 (.pointer (some ⟨q,0,.none⟩)) (.pointer none)).run Tryz.prog W= .ok (.bool false) W:=fun q W=> by kernel_rfl
 go_enter Tryz.func3,Tryz.ntmps3
 go_upto_region 4 with (first | (go_at_call 4;(with_reducible refine (haw.out _).mono ?_);rintro r w1 ⟨rfl,hb1⟩) | fail)
 have tH:zaa (w1.alloc (.cells #[.int .i64 2,.int .i64 2,.int .i64 0] 24)) w1.heap.size #[.int .i64 2,.int .i64 2,.int .i64 0] 24:=heap_alloc_new _ _
 have yX:Below N w (w1.alloc (.cells #[.int .i64 2,.int .i64 2,.int .i64 0] 24)):=(hb1.mono hNw).alloc (Nat.le_trans hNw hb1.size) _
 generalize w1.alloc (.cells #[.int .i64 2,.int .i64 2,.int .i64 0] 24)=X at *
 obtain ⟨H,hH,hH'⟩:=hidv w1.heap.size
 rw [<- hH'] at tH ⊢
 clear hH' haw hb1
 have lH:=tH.lt
 obtain ⟨c0,c1,c2⟩:=ci3 2 2 0 tH.cell
 go_upto_region 5 with (first | (go_at_call 5;(with_reducible refine (hnw.out _).mono ?_);rintro r w2 ⟨q,rfl,hk2,hb2⟩) | fail)
 have tH2:=tH.below hb2
 have hNX:=Nat.le_trans hNw yX.size
 have y2:Below N w w2:=yX.trans (hb2.mono hNX)
 have lo:∀ i,(fun i=> X.heap.size<=i/\i < w2.heap.size) i->N<=i:=fun i e=> Nat.le_trans hNX e.1
 have fH:¬ (fun i=> X.heap.size<=i/\i < w2.heap.size) H:=fun e=> by have:=e.1;omega
 generalize (fun i=> X.heap.size<=i/\i < w2.heap.size)=F at hk2 fH lo
 have hfi:Calls Tryz.prog 6 #[.pointer (some ⟨q,0,.none⟩)] w2 fun e w'=> e= .returned (.int .i64 1)/\w'=w2:=klfirst_any hk2
 replace hfi:=hd' hfi
 clear c0 c1 c2 hnw tH hb2 lH
 go_upto_region 9 with (first | (go_at_call 6;(with_reducible refine hfi.out.mono ?_);rintro r w3 ⟨rfl,hw3⟩;obtain rfl:=hw3.symm) | fail)
 clear hfi
 have bA:Below w2.heap.size w2 (w2.alloc (.cells #[.int .i64 1,.int .i64 0,.int .i64 0,.int .i64 1,.int .i64 0,.int .i64 513,.int .i64 2,.int .i64 128,.int .i64 0,.int .i64 3,.int .i64 0,.int .i64 0,.int .i64 3,.int .i64 (-1),.int .i64 4,.int .i64 4,.int .i64 1,.int .i64 0,.int .i64 4,.int .i64 2,.int .i64 0] 30)):=br.alloc lr _
 have tB:zaa (w2.alloc (.cells #[.int .i64 1,.int .i64 0,.int .i64 0,.int .i64 1,.int .i64 0,.int .i64 513,.int .i64 2,.int .i64 128,.int .i64 0,.int .i64 3,.int .i64 0,.int .i64 0,.int .i64 3,.int .i64 (-1),.int .i64 4,.int .i64 4,.int .i64 1,.int .i64 0,.int .i64 4,.int .i64 2,.int .i64 0] 30)) w2.heap.size #[.int .i64 1,.int .i64 0,.int .i64 0,.int .i64 1,.int .i64 0,.int .i64 513,.int .i64 2,.int .i64 128,.int .i64 0,.int .i64 3,.int .i64 0,.int .i64 0,.int .i64 3,.int .i64 (-1),.int .i64 4,.int .i64 4,.int .i64 1,.int .i64 0,.int .i64 4,.int .i64 2,.int .i64 0] 30:=heap_alloc_new _ _
 have hk3:=hk2.below bA
 have y4:=y2.trans (bA.mono (Nat.le_trans hNw y2.size))
 have tH3:=tH2.below bA
 have fB:¬ F w2.heap.size:=fun e=> by have:=hk2.lt _ e;omega
 generalize w2.alloc (.cells #[.int .i64 1,.int .i64 0,.int .i64 0,.int .i64 1,.int .i64 0,.int .i64 513,.int .i64 2,.int .i64 128,.int .i64 0,.int .i64 3,.int .i64 0,.int .i64 0,.int .i64 3,.int .i64 (-1),.int .i64 4,.int .i64 4,.int .i64 1,.int .i64 0,.int .i64 4,.int .i64 2,.int .i64 0] 30)=w4 at *
 obtain ⟨B,hB,hB'⟩:=hidv w2.heap.size
 rw [<- hB'] at tB fB ⊢
 clear hB' hk2 tH2 bA y2 yX hNX
 have hr0:Kn.Rest (zht 1 1):=⟨rfl,rfl,rfl⟩
 go_wp2
 go_loopw [5,6,7] (fun v5 _ _ wr=> ∃ (i:Int) (k:Kl),0<=i/\i<=7/\v5= .int .i64 i/\KlO F wr q Kn.s k/\Kn.Rest k/\zaa wr H #[.int .i64 2,.int .i64 2,.int .i64 0] 24/\zaa wr B #[.int .i64 1,.int .i64 0,.int .i64 0,.int .i64 1,.int .i64 0,.int .i64 513,.int .i64 2,.int .i64 128,.int .i64 0,.int .i64 3,.int .i64 0,.int .i64 0,.int .i64 3,.int .i64 (-1),.int .i64 4,.int .i64 4,.int .i64 1,.int .i64 0,.int .i64 4,.int .i64 2,.int .i64 0] 30/\Below N w wr) (fun v5 _ _ _=> 7 - (intOf v5).toNat)
 case atStart=> exact ⟨0,_,by decide,by decide,rfl,hk3,hr0,tH3,tB,y4⟩
 case round=>
  obtain ⟨i,k,hi0,hi7,rfl,hk,hrs,hH,hBr,yr⟩:=hrel
  have hNr:=Nat.le_trans hNw yr.size
  have lB:=hBr.lt
  have hask:=fun (o:Op3) (ho:Kn.bad o)=> kn_ask hk hrs o ho
  rcases (by omega:i=0\/i=1\/i=2\/i=3\/i=4\/i=5\/i=6\/i=7) with rfl | rfl | rfl | rfl | rfl | rfl | rfl | rfl
  ·have hA:=hask ⟨1,0,0⟩ ⟨by decide,by decide,by decide +kernel⟩
   have hE:zjw Kn.s 1 1 0 0=1:=by decide +kernel
   dsimp only at hA
   rw [hE] at hA
   replace hA:=hd' hA
   obtain ⟨b0,b1,b2⟩:=ci3 1 0 0 hBr.cell
   clear hask hE
   go_wp2_with (first
    | (go_at_call 7;(with_reducible refine hA.out.mono ?_);rintro r w5 ⟨g,cap,cur,k',rfl,hg1,hcap,hrow,hc8,hc15,hk5,hr5,ho5,hfg⟩;have lg:=hrow.lt;have z8:w5.cell? ⟨g,8,.none⟩=some (.int .i64 5):=(hrow.cell 8).trans hc8;have z15:w5.cell? ⟨g,15,.none⟩=some (.int .i64 1):=(hrow.cell 15).trans hc15;have hid:=hd' (kn_idle hk5 hr5))
    | (go_at_call 8;(with_reducible refine hid.out.mono ?_);rintro r w6 ⟨rfl,hw6⟩;obtain rfl:=hw6.symm)
    | fail)
   exact ⟨⟨1,k',by decide,by decide,by go_num,hk5,hr5,hH.only ho5 fH,hBr.only ho5 fB,yr.trans (ho5.below hNr lo)⟩,by simp [intOf]⟩
  ·have hA:=hask ⟨1,0,513⟩ ⟨by decide,by decide,by decide +kernel⟩
   have hE:zjw Kn.s 1 1 0 513=1:=by decide +kernel
   dsimp only at hA
   rw [hE] at hA
   replace hA:=hd' hA
   have b0:=ci 1 (hBr.cell 3)
   have b1:=ci 0 (hBr.cell 4)
   have b2:=ci 513 (hBr.cell 5)
   clear hask hE
   go_wp2_with (first
    | (go_at_call 7;(with_reducible refine hA.out.mono ?_);rintro r w5 ⟨g,cap,cur,k',rfl,hg1,hcap,hrow,hc8,hc15,hk5,hr5,ho5,hfg⟩;have lg:=hrow.lt;have z8:w5.cell? ⟨g,8,.none⟩=some (.int .i64 5):=(hrow.cell 8).trans hc8;have z15:w5.cell? ⟨g,15,.none⟩=some (.int .i64 1):=(hrow.cell 15).trans hc15;have hid:=hd' (kn_idle hk5 hr5))
    | (go_at_call 8;(with_reducible refine hid.out.mono ?_);rintro r w6 ⟨rfl,hw6⟩;obtain rfl:=hw6.symm)
    | fail)
   exact ⟨⟨2,k',by decide,by decide,by go_num,hk5,hr5,hH.only ho5 fH,hBr.only ho5 fB,yr.trans (ho5.below hNr lo)⟩,by simp [intOf]⟩
  ·have hA:=hask ⟨2,128,0⟩ ⟨by decide,by decide,by decide +kernel⟩
   have hE:zjw Kn.s 1 2 128 0=1:=by decide +kernel
   dsimp only at hA
   rw [hE] at hA
   replace hA:=hd' hA
   have b0:=ci 2 (hBr.cell 6)
   have b1:=ci 128 (hBr.cell 7)
   have b2:=ci 0 (hBr.cell 8)
   clear hask hE
   go_wp2_with (first
    | (go_at_call 7;(with_reducible refine hA.out.mono ?_);rintro r w5 ⟨g,cap,cur,k',rfl,hg1,hcap,hrow,hc8,hc15,hk5,hr5,ho5,hfg⟩;have lg:=hrow.lt;have z8:w5.cell? ⟨g,8,.none⟩=some (.int .i64 5):=(hrow.cell 8).trans hc8;have z15:w5.cell? ⟨g,15,.none⟩=some (.int .i64 1):=(hrow.cell 15).trans hc15;have hid:=hd' (kn_idle hk5 hr5))
    | (go_at_call 8;(with_reducible refine hid.out.mono ?_);rintro r w6 ⟨rfl,hw6⟩;obtain rfl:=hw6.symm)
    | fail)
   exact ⟨⟨3,k',by decide,by decide,by go_num,hk5,hr5,hH.only ho5 fH,hBr.only ho5 fB,yr.trans (ho5.below hNr lo)⟩,by simp [intOf]⟩
  ·have hA:=hask ⟨3,0,0⟩ ⟨by decide,by decide,by decide +kernel⟩
   have hE:zjw Kn.s 1 3 0 0=1:=by decide +kernel
   dsimp only at hA
   rw [hE] at hA
   replace hA:=hd' hA
   have b0:=ci 3 (hBr.cell 9)
   have b1:=ci 0 (hBr.cell 10)
   have b2:=ci 0 (hBr.cell 11)
   clear hask hE
   go_wp2_with (first
    | (go_at_call 7;(with_reducible refine hA.out.mono ?_);rintro r w5 ⟨g,cap,cur,k',rfl,hg1,hcap,hrow,hc8,hc15,hk5,hr5,ho5,hfg⟩;have lg:=hrow.lt;have z8:w5.cell? ⟨g,8,.none⟩=some (.int .i64 5):=(hrow.cell 8).trans hc8;have z15:w5.cell? ⟨g,15,.none⟩=some (.int .i64 1):=(hrow.cell 15).trans hc15;have hid:=hd' (kn_idle hk5 hr5))
    | (go_at_call 8;(with_reducible refine hid.out.mono ?_);rintro r w6 ⟨rfl,hw6⟩;obtain rfl:=hw6.symm)
    | fail)
   exact ⟨⟨4,k',by decide,by decide,by go_num,hk5,hr5,hH.only ho5 fH,hBr.only ho5 fB,yr.trans (ho5.below hNr lo)⟩,by simp [intOf]⟩
  ·have hA:=hask ⟨3,(-1),4⟩ ⟨by decide,by decide,by decide +kernel⟩
   have hE:zjw Kn.s 1 3 (-1) 4=1:=by decide +kernel
   dsimp only at hA
   rw [hE] at hA
   replace hA:=hd' hA
   have b0:=ci 3 (hBr.cell 12)
   have b1:=ci (-1) (hBr.cell 13)
   have b2:=ci 4 (hBr.cell 14)
   clear hask hE
   go_wp2_with (first
    | (go_at_call 7;(with_reducible refine hA.out.mono ?_);rintro r w5 ⟨g,cap,cur,k',rfl,hg1,hcap,hrow,hc8,hc15,hk5,hr5,ho5,hfg⟩;have lg:=hrow.lt;have z8:w5.cell? ⟨g,8,.none⟩=some (.int .i64 5):=(hrow.cell 8).trans hc8;have z15:w5.cell? ⟨g,15,.none⟩=some (.int .i64 1):=(hrow.cell 15).trans hc15;have hid:=hd' (kn_idle hk5 hr5))
    | (go_at_call 8;(with_reducible refine hid.out.mono ?_);rintro r w6 ⟨rfl,hw6⟩;obtain rfl:=hw6.symm)
    | fail)
   exact ⟨⟨5,k',by decide,by decide,by go_num,hk5,hr5,hH.only ho5 fH,hBr.only ho5 fB,yr.trans (ho5.below hNr lo)⟩,by simp [intOf]⟩
  ·have hA:=hask ⟨4,1,0⟩ ⟨by decide,by decide,by decide +kernel⟩
   have hE:zjw Kn.s 1 4 1 0=1:=by decide +kernel
   dsimp only at hA
   rw [hE] at hA
   replace hA:=hd' hA
   have b0:=ci 4 (hBr.cell 15)
   have b1:=ci 1 (hBr.cell 16)
   have b2:=ci 0 (hBr.cell 17)
   clear hask hE
   go_wp2_with (first
    | (go_at_call 7;(with_reducible refine hA.out.mono ?_);rintro r w5 ⟨g,cap,cur,k',rfl,hg1,hcap,hrow,hc8,hc15,hk5,hr5,ho5,hfg⟩;have lg:=hrow.lt;have z8:w5.cell? ⟨g,8,.none⟩=some (.int .i64 5):=(hrow.cell 8).trans hc8;have z15:w5.cell? ⟨g,15,.none⟩=some (.int .i64 1):=(hrow.cell 15).trans hc15;have hid:=hd' (kn_idle hk5 hr5))
    | (go_at_call 8;(with_reducible refine hid.out.mono ?_);rintro r w6 ⟨rfl,hw6⟩;obtain rfl:=hw6.symm)
    | fail)
   exact ⟨⟨6,k',by decide,by decide,by go_num,hk5,hr5,hH.only ho5 fH,hBr.only ho5 fB,yr.trans (ho5.below hNr lo)⟩,by simp [intOf]⟩
  ·have hA:=hask ⟨4,2,0⟩ ⟨by decide,by decide,by decide +kernel⟩
   have hE:zjw Kn.s 1 4 2 0=1:=by decide +kernel
   dsimp only at hA
   rw [hE] at hA
   replace hA:=hd' hA
   have b0:=ci 4 (hBr.cell 18)
   have b1:=ci 2 (hBr.cell 19)
   have b2:=ci 0 (hBr.cell 20)
   clear hask hE
   go_wp2_with (first
    | (go_at_call 7;(with_reducible refine hA.out.mono ?_);rintro r w5 ⟨g,cap,cur,k',rfl,hg1,hcap,hrow,hc8,hc15,hk5,hr5,ho5,hfg⟩;have lg:=hrow.lt;have z8:w5.cell? ⟨g,8,.none⟩=some (.int .i64 5):=(hrow.cell 8).trans hc8;have z15:w5.cell? ⟨g,15,.none⟩=some (.int .i64 1):=(hrow.cell 15).trans hc15;have hid:=hd' (kn_idle hk5 hr5))
    | (go_at_call 8;(with_reducible refine hid.out.mono ?_);rintro r w6 ⟨rfl,hw6⟩;obtain rfl:=hw6.symm)
    | fail)
   exact ⟨⟨7,k',by decide,by decide,by go_num,hk5,hr5,hH.only ho5 fH,hBr.only ho5 fB,yr.trans (ho5.below hNr lo)⟩,by simp [intOf]⟩
  ·clear hask
   have hA:=kn_ask hk hrs ⟨1,0,129⟩ ⟨by decide,by decide,by decide +kernel⟩
   have hE:zjw Kn.s 1 1 0 129=3:=by decide +kernel
   dsimp only at hA
   rw [hE] at hA
   replace hA:=hd' hA
   clear hE hBr lB fB tB hk3 tH3 hr0
   go_upto_region 16 with (first | (go_at_call 7;(with_reducible refine hA.out.mono ?_);rintro r w5 ⟨g,cap,cur,k1,rfl,hg1,hcap,hrow,hc8,hc15,hk5,hr5,ho5,hfg⟩) | fail)
   have hH5:=hH.only ho5 fH
   have y5:=yr.trans (ho5.below hNr lo)
   have hz:=hd' (kn_zero hk5 hr5)
   clear hA hH ho5 hk hrs hc8
   go_upto_region 17 with (first | (go_at_call 7;(with_reducible refine hz.out.mono ?_);rintro r w6 ⟨v6,rfl,hk6,ho6⟩) | fail)
   have hH6:=hH5.only ho6 fH
   have y6:=y5.trans (ho6.below (Nat.le_trans hNw y5.size) lo)
   have hN6:=Nat.le_trans hNw y6.size
   have hrow6:=hrow.only ho6 hfg
   have lH6:=hH6.lt
   have lg6:=hrow6.lt
   clear hz hH5 hrow ho6 hk5
   go_upto_region 18 with (first
    | (go_at_call 10;(with_reducible refine (hfl.out _).mono ?_);rintro r w7 ⟨p,b,rfl,hw7,hp7,hb7,hB7⟩;have hs7:=hd' (kn_step (hk6.below hB7) hr5 hw7))
    | (go_at_call 9;(with_reducible refine hs7.out.mono ?_);rintro r w8 ⟨v8,rfl,hk8,ho8⟩)
    | fail)
   have hH8:=(hH6.below hB7).only ho8 (fun e=> by rcases e with e | e | e;exact fH e;omega;omega)
   have hrow8:=(hrow6.below hB7).only ho8 (fun e=> by rcases e with e | e | e;exact hfg e;omega;omega)
   have y7:=y6.trans (hB7.mono hN6)
   have hN7:=Nat.le_trans hNw y7.size
   have y8:=y7.trans (ho8.below hN7 (fun i e=> by rcases e with e | e | e;exact lo i e;omega;omega))
   have lo8:∀ i,grow F w7 w8 i->N<=i:=loGrow lo hN7
   have hN8:=Nat.le_trans hNw y8.size
   have fH8:¬ grow F w7 w8 H:=zif fH (hH6.below hB7).lt
   have fg8:¬ grow F w7 w8 g:=zif hfg (hrow6.below hB7).lt
   generalize grow F w7 w8=F8 at hk8 fH8 fg8 lo8
   have hfr:=hd' (kn_free hk8 hr5)
   clear hs7 hH6 hrow6 lH6 lg6 ho8 hB7 hp7 hb7 hk6 hw7 fH hfg
   go_upto_region 19 with (first | (go_at_call 7;(with_reducible refine hfr.out.mono ?_);rintro r w9 ⟨v9,rfl,hk9,ho9⟩) | fail)
   have hH9:=hH8.only ho9 fH8
   have hrow9:=hrow8.only ho9 fg8
   have y9:=y8.trans (ho9.below hN8 lo8)
   have lo9:∀ i,grow F8 w8 w9 i->N<=i:=loGrow lo8 hN8
   have hN9:=Nat.le_trans hNw y9.size
   have fH9:¬ grow F8 w8 w9 H:=zif fH8 hH8.lt
   have fg9:¬ grow F8 w8 w9 g:=zif fg8 hrow8.lt
   generalize grow F8 w8 w9=F9 at hk9 fH9 fg9 lo9
   have hbu:=hd' (kn_busy hk9 rfl)
   clear hfr hH8 hrow8 ho9 hk8 fH8 fg8
   go_upto_region 20 with (first | (go_at_call 7;(with_reducible refine hbu.out.mono ?_);rintro r w10 ⟨v10,rfl,hk10,ho10⟩) | fail)
   have hH10:=hH9.only ho10 fH9
   have hrow10:=hrow9.only ho10 fg9
   have y10:=y9.trans (ho10.below hN9 lo9)
   have lo10:∀ i,grow F9 w9 w10 i->N<=i:=loGrow lo9 hN9
   have hN10:=Nat.le_trans hNw y10.size
   have fH10:¬ grow F9 w9 w10 H:=zif fH9 hH9.lt
   have fg10:¬ grow F9 w9 w10 g:=zif fg9 hrow9.lt
   generalize grow F9 w9 w10=G at hk10 fH10 fg10 lo10
   have hst:=hd' (klstack_yes hk10 rfl)
   clear hbu hH9 hrow9 ho10 hk9 fH9 fg9
   go_upto_region 21 with (first | (go_at_call 11;(with_reducible refine hst.out.mono ?_);rintro r w11 ⟨gs,rfl,hgs,hrst,hb11⟩) | fail)
   have fgs:¬ G gs:=fun e=> by have:=hk10.lt _ e;omega
   have hk11:=hk10.below hb11
   have y11:=y10.trans (hb11.mono hN10)
   have hN11:=Nat.le_trans hNw y11.size
   have hH11:=hH10.below hb11
   have hrow11:=hrow10.below hb11
   replace hrst:zaa w11 gs #[.int .i64 2,.int .i64 0,.int .i64 3,.int .i64 0,.int .i64 0,.int .i64 0,.int .i64 0,.int .i64 0,.int .i64 0,.int .i64 0] 45:=hrst
   have lH11:=hH11.lt
   have lg11:=hrow11.lt
   have ls11:=hrst.lt
   clear hst hH10 hrow10 hb11 hgs
   go_wp2_with (first
    | (go_at_call 10;(with_reducible refine (hfl.out _).mono ?_);rintro r w12 ⟨p2,b2,rfl,hw12,hp12,hb12,hB12⟩;have hdi:=hd' (kn_dies (hk11.below hB12) rfl hw12 (fun e=> by have:=hk11.lt _ e;omega) (fun e=> by have:=hk11.lt _ e;omega)))
    | (go_at_call 9;(with_reducible refine hdi.out.mono ?_);rintro r w13 ⟨gm,capm,curm,rfl,hgm,hcm,hrm,hm7,hk13,ho13⟩;have y12:=y11.trans (hB12.mono hN11);have hN12:=Nat.le_trans hNw y12.size;have y13:=y12.trans (ho13.below hN12 (fun i e=> by rcases e with e | e | e;exact lo10 i e;omega;omega));have hH13:=(hH11.below hB12).only ho13 (fun e=> by rcases e with e | e | e;exact fH10 e;omega;omega);have hrow13:=(hrow11.below hB12).only ho13 (fun e=> by rcases e with e | e | e;exact fg10 e;omega;omega);have hst13:=(hrst.below hB12).only ho13 (fun e=> by rcases e with e | e | e;exact fgs e;omega;omega);have z15:w13.cell? ⟨g,15,.none⟩=some (.int .i64 3):=(hrow13.cell 15).trans hc15;have s0:=ci 2 (hst13.cell 0);have s1:=ci 0 (hst13.cell 1);have s2:=ci 3 (hst13.cell 2);have m7:w13.cell? ⟨gm,7,.none⟩=some (.int .i64 8):=(hrm.cell 7).trans hm7;have hs2:=hd' (klstack_no hk13 rfl))
    | (go_at_call 11;(with_reducible refine hs2.out.mono ?_);rintro r w14 ⟨rfl,hb14⟩;have y14:=y13.trans (hb14.mono (Nat.le_trans hNw y13.size));have hH14:=hH13.below hb14;have c0:=ci 2 (hH14.cell 0);have c1:=ci 2 (hH14.cell 1);have c2:=ci 0 (hH14.cell 2))
    | (go_at_call 5;(with_reducible refine (hni.out _).mono ?_);rintro r w15 ⟨rfl,hb15⟩;have y15:=y14.trans (hb15.mono (Nat.le_trans hNw y14.size)))
    | fail)
   go_returns
   exact ⟨rfl,y15⟩
end Go.Proofs.YthgekdlegbmehaaGreat

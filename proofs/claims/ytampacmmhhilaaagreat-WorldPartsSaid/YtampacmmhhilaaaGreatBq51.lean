/- Texts bound together: AudY AudV SchT SchU SchV SchW SchX SchC SchR SchS SchY SchK. -/
import Derived.Deep.Onto

import Derived.Test.YtampacmmhhilaaaGreatBq50

import Derived.Test.YtampacmmhhilaaaGreatBq35

set_option linter.all false
set_option maxHeartbeats 8000000
set_option maxRecDepth 100000
namespace Go.Proofs.YtampacmmhhilaaaGreat

section

open Go.RowKit

attribute [local go_sem ↓] Go.wp_at_zero Go.wp_at_succ

attribute [local go_sem ↓] zhk zh6

def zco (w:World) (N:Nat) (c:Cn):Prop:=w.heap[N]?=some (.cells #[.int .i64 c.f,.int .i64 c.t,.int .i64 c.l,.int .i64 c.o] 111 (0,0))
section

variable {w:World} {N:Nat} {c:Cn}

theorem zco.set0 (h:zco w N c) (x:Int):zco (w.setCell ⟨N,0,.none⟩ (.int .i64 x)) N ⟨x,c.t,c.l,c.o⟩:=by unfold zco at *;rw [heap_setCell_same w N 0 _ _ _ h];rfl
theorem zco.set1 (h:zco w N c) (x:Int):zco (w.setCell ⟨N,1,.none⟩ (.int .i64 x)) N ⟨c.f,x,c.l,c.o⟩:=by unfold zco at *;rw [heap_setCell_same w N 1 _ _ _ h];rfl
theorem zco.set2 (h:zco w N c) (x:Int):zco (w.setCell ⟨N,2,.none⟩ (.int .i64 x)) N ⟨c.f,c.t,x,c.o⟩:=by unfold zco at *;rw [heap_setCell_same w N 2 _ _ _ h];rfl
theorem zco.set3 (h:zco w N c) (x:Int):zco (w.setCell ⟨N,3,.none⟩ (.int .i64 x)) N ⟨c.f,c.t,c.l,x⟩:=by unfold zco at *;rw [heap_setCell_same w N 3 _ _ _ h];rfl
theorem zco.c0 (h:zco w N c):w.cell? ⟨N,0,.none⟩=some (.int .i64 c.f):=zac h 0
theorem zco.c1 (h:zco w N c):w.cell? ⟨N,1,.none⟩=some (.int .i64 c.t):=zac h 1
theorem zco.c2 (h:zco w N c):w.cell? ⟨N,2,.none⟩=some (.int .i64 c.l):=zac h 2
theorem zco.c3 (h:zco w N c):w.cell? ⟨N,3,.none⟩=some (.int .i64 c.o):=zac h 3
theorem zco.fr (h:zco w N c) (i:Nat):w.frozen? ⟨N,i,.none⟩=false:=zax h i
theorem zco.lt (h:zco w N c):N < w.heap.size:=(Array.getElem?_eq_some_iff.1 h).1
theorem zco.below {w':World} (h:zco w N c) (hb:Below w.heap.size w w'):zco w' N c:=(hb.block N h.lt).trans h
end

abbrev atN (N:Nat):Nat->Prop:=fun k=> k=N
theorem zpz (w:World) (N:Nat) (c:Cn) (b:Bool) (k:Int) (hc:zco w N c) (hn:c.nn) (hs:c.sum<=100000) (hk:0<=k/\k<=100000):
  Calls Tryz.prog 104 #[.pointer (some ⟨N,0,.none⟩),.bool b,.int .i64 k] w fun e w'=> e= .returned (.tuple #[])/\Only (atN N) w w'/\zco w' N (c.add (zj7 b k)):=by
 have hb:=Cn.bd hn hs
 have c2:=hc.c2
 have c3:=hc.c3
 have f2:=hc.fr 2
 have f3:=hc.fr 3
 have w2:=wrp (c.l + k)
 have w3:=wrp (c.o + k)
 rcases Bool.eq_false_or_eq_true b with rfl | rfl
 ·go_enter Tryz.func104,Tryz.ntmps104
  go_wp2
  go_end0
  refine ⟨rfl,(Only.refl (atN N) w).setCell (p:=⟨N,2,.none⟩) (.inl rfl) _,?_⟩
  have:=hc.set2 (c.l + k)
  simpa [Cn.add,zj7] using this
 ·go_enter Tryz.func104,Tryz.ntmps104
  go_wp2
  go_end0
  refine ⟨rfl,(Only.refl (atN N) w).setCell (p:=⟨N,3,.none⟩) (.inl rfl) _,?_⟩
  have:=hc.set3 (c.o + k)
  simpa [Cn.add,zj7] using this
theorem Only.zgk {N:Nat} {w w':World} (o:Only (atN N) w w') {b:Nat} (hb:b < w.heap.size) (hn:b≠N) (i:Nat):w'.cell? ⟨b,i,.none⟩=w.cell? ⟨b,i,.none⟩:=by
 have:=o.block b hb hn
 simp only [World.cell?]
 rw [this]
theorem Only.zs3 {N B:Nat} {w0 w w':World} (h:Below B w0 w) (o:Only (atN N) w w') (hB:B<=w.heap.size) (hN:B<=N):Below B w0 w':=h.trans (o.below hB fun k hk=> by rw [hk];exact hN)
theorem z2f (k:Int) (i:Nat) (h:(i:Int)<=zah k):zbj k * i<=512/\0<=zbj k * i:=by
 have h1:=znt k
 have h2:=zcy k
 have:=zk3 (c:=zbj k) (m:=(i:Int)) (C:=32) (M:=16) (by omega) (by omega)
 omega
theorem zyk (h:Hp) (v:Value) (a k:Int) (w0 w:World) (N:Nat) (c:Cn) (b:Bok w0 v h) (ha:0<=a/\a < h.p) (hB:Below w0.heap.size w0 w) (hN:w0.heap.size<=N) (hc:zco w N c) (hn:c.nn) (hs:c.sum<=5000):
  Calls Tryz.prog 106 #[zzu h v,.int .i64 a,.int .i64 k,.pointer (some ⟨N,0,.none⟩)] w fun e w'=> e= .returned (.tuple #[])/\Only (atN N) w w'/\zco w' N (c.add (h.slS a (zbj k) (zah k).toNat)):=by
 have hsl:=fun i X (hX:Below w0.heap.size w0 X) hi=> z7y h v a i X (b.below hX) ha hi
 have hlv:=fun x X (hX:Below w0.heap.size w0 X)=> zth h v x X (b.below hX)
 have hss:=slots_any k
 have hsz:=zgq k
 have hsb:=zcy k
 have hzb:=znt k
 have hb2:=fun i=> z2f k i
 obtain ⟨q,hq⟩:∃ q:Nat,zah k=q:=⟨(zah k).toNat,by omega⟩
 rw [hq] at hss hsb hb2 ⊢
 rw [Int.toNat_natCast]
 generalize zbj k=z at *
 have hS0:c.add (h.slS a z 0)=c:=Cn.add_zero c
 have hSS:∀ i,c.add (h.slS a z (i + 1))=(c.add (h.slS a z i)).add (h.slC a z i):=fun i=> (Cn.add_assoc _ _ _).symm
 have hSn:∀ i,(c.add (h.slS a z i)).nn:=fun i=> Cn.z3s hn (h.z9d a hzb.1 i)
 have hSs:∀ i:Nat,i<=q->(c.add (h.slS a z i)).sum<=6000:=fun i hi=> by
  have:=hb2 i (by omega)
  rw [Cn.zt6,h.z2x];omega
 have hSl:∀ i,h.slC a z i=if h.sk a i=1 then ⟨z,0,0,0⟩ else if h.sk a i=3 then ⟨0,z,0,0⟩ else zj7 (h.sk a i==2 && h.lv (h.sa a i)) z:=fun _=> rfl
 generalize hST:(fun i=> c.add (h.slS a z i))=T at *
 have hTi:∀ i,c.add (h.slS a z i)=T i:=fun i=> by rw [<- hST]
 simp only [hTi] at hS0 hSS hSn hSs ⊢
 clear hST hTi
 replace hsl:=hd' hsl
 replace hlv:=hd' hlv
 replace hss:=hd' hss
 replace hsz:=hd' hsz
 replace hS0:=hd' hS0
 replace hSS:=hd' hSS
 replace hSn:=hd' hSn
 replace hSs:=hd' hSs
 replace hSl:=hd' hSl
 have hNlt:=hc.lt
 clear hq hb2 b
 go_enter Tryz.func106,Tryz.ntmps106
 go_wp2_with fail
 refine (hsz.out _).mono ?_
 rintro e w2 ⟨rfl,hw⟩
 obtain rfl:=hw.symm
 clear hw
 go_wp2_with fail
 refine (hss.out _).mono ?_
 rintro e w2 ⟨rfl,hw⟩
 obtain rfl:=hw.symm
 clear hw
 obtain ⟨H,hH,hH'⟩:=hidv w.heap.size
 have hHN:H≠N:=by omega
 have g0:=heap_alloc_new w (.cells #[.int .i64 h.p,.int .i64 h.c,.int .i64 h.m,v] 157)
 have hW:Only (atN N) w (w.alloc (.cells #[.int .i64 h.p,.int .i64 h.c,.int .i64 h.m,v] 157)):=(Only.refl _ _).alloc _
 have hBW:=hB.alloc hB.size (.cells #[.int .i64 h.p,.int .i64 h.c,.int .i64 h.m,v] 157)
 have hCW:zco (w.alloc (.cells #[.int .i64 h.p,.int .i64 h.c,.int .i64 h.m,v] 157)) N c:=hc.below (br.alloc lr _)
 have hHW:H < (w.alloc (.cells #[.int .i64 h.p,.int .i64 h.c,.int .i64 h.m,v] 157)).heap.size:=by simp;omega
 have hHN':N < (w.alloc (.cells #[.int .i64 h.p,.int .i64 h.c,.int .i64 h.m,v] 157)).heap.size:=by simp;omega
 rw [<- hH'] at g0 ⊢
 clear hH'
 generalize w.alloc (.cells #[.int .i64 h.p,.int .i64 h.c,.int .i64 h.m,v] 157)=W at *
 have c0:W.cell? ⟨H,0,.none⟩=some (.int .i64 h.p):=zac g0 0
 have c1:W.cell? ⟨H,1,.none⟩=some (.int .i64 h.c):=zac g0 1
 have c2:W.cell? ⟨H,2,.none⟩=some (.int .i64 h.m):=zac g0 2
 have c3:W.cell? ⟨H,3,.none⟩=some v:=zac g0 3
 clear g0
 go_wp2_with fail
 go_loopw [15] (fun vi wr=> ∃ i:Nat,i<=q/\vi= .int .i64 i/\Only (atN N) W wr/\zco wr N (T i)) (fun vi _=> q - (intOf vi).toNat)
 case atStart=> exact ⟨0,Nat.zero_le _,rfl,Only.refl _ _,by rw [hS0.out];exact hCW⟩
 case round=>
  obtain ⟨i,hi,rfl,hor,hcr⟩:=hrel
  have d0:=(hor.zgk hHW hHN 0).trans c0
  have d1:=(hor.zgk hHW hHN 1).trans c1
  have d2:=(hor.zgk hHW hHN 2).trans c2
  have d3:=(hor.zgk hHW hHN 3).trans c3
  have hBr:=Only.zs3 hBW hor hBW.size hN
  by_cases hlt:i < q
  ·have hsa:=hsl.out i wr hBr (by omega)
   have hstep:=hSS.out i
   rw [hSl.out i] at hstep
   have hnn:=hSn.out i
   have hss2:=hSs.out i hi
   have hbd:=Cn.bd hnn hss2
   have hla:=hlv.out (h.sa a i)
   generalize h.sk a i=k4 at *
   generalize h.sa a i=k5 at *
   generalize h.lv k5=lb at *
   generalize T i=cix at *
   replace hsa:=hd' hsa
   replace hla:=hd' hla
   by_cases hk1:k4=1
   ·rw [if_pos hk1] at hstep
    subst hk1
    replace hstep:=hd' hstep
    go_wp2_with fail
    refine hsa.out.mono ?_
    rintro e w3 ⟨rfl,hb3⟩
    have hc3:=(hcr.below hb3).below (br.alloc lr (.cells #[.int .i64 1,.int .i64 k5] 163))
    have o3:Only (atN N) W (w3.alloc (.cells #[.int .i64 1,.int .i64 k5] 163)):=(hor.trans (Only.of_below hb3) (fun _ _ h=> h)).alloc _
    have q0:=hc3.c0
    have q1:=hc3.fr 0
    have w4:=wrp (cix.f + z)
    go_wp2
    refine ⟨⟨i + 1,by omega,by go_num,o3.setCell (p:=⟨N,0,.none⟩) (.inl rfl) _,?_⟩,by simp [intOf];omega⟩
    have:=hc3.set0 (cix.f + z)
    rw [hstep.out]
    simpa [Cn.add] using this
   ·by_cases hk3:k4=3
    ·rw [if_neg hk1,if_pos hk3] at hstep
     subst hk3
     replace hstep:=hd' hstep
     clear hk1
     go_wp2_with fail
     refine hsa.out.mono ?_
     rintro e w3 ⟨rfl,hb3⟩
     have hc3:=(hcr.below hb3).below (br.alloc lr (.cells #[.int .i64 3,.int .i64 k5] 163))
     have o3:Only (atN N) W (w3.alloc (.cells #[.int .i64 3,.int .i64 k5] 163)):=(hor.trans (Only.of_below hb3) (fun _ _ h=> h)).alloc _
     have q0:=hc3.c1
     have q1:=hc3.fr 1
     have w4:=wrp (cix.t + z)
     go_wp2
     refine ⟨⟨i + 1,by omega,by go_num,o3.setCell (p:=⟨N,1,.none⟩) (.inl rfl) _,?_⟩,by simp [intOf];omega⟩
     have:=hc3.set1 (cix.t + z)
     rw [hstep.out]
     simpa [Cn.add] using this
    ·rw [if_neg hk1,if_neg hk3] at hstep
     have hk1':(k4==1)=false:=by rw [beq_eq_false_iff_ne];exact hk1
     have hk3':(k4==3)=false:=by rw [beq_eq_false_iff_ne];exact hk3
     by_cases hk2:k4=2
     ·subst hk2
      replace hstep:T (i + 1)=cix.add (zj7 lb z):=hstep
      replace hstep:=hd' hstep
      clear hk1 hk3
      go_wp2_with fail
      refine hsa.out.mono ?_
      rintro e w3 ⟨rfl,hb3⟩
      have hc3:=(hcr.below hb3).below (br.alloc lr (.cells #[.int .i64 2,.int .i64 k5] 163))
      have o3:Only (atN N) W (w3.alloc (.cells #[.int .i64 2,.int .i64 k5] 163)):=(hor.trans (Only.of_below hb3) (fun _ _ h=> h)).alloc _
      have e0:=(o3.zgk hHW hHN 0).trans c0
      have e1:=(o3.zgk hHW hHN 1).trans c1
      have e2:=(o3.zgk hHW hHN 2).trans c2
      have e3:=(o3.zgk hHW hHN 3).trans c3
      have hB3:=Only.zs3 hBW o3 hBW.size hN
      go_wp2_with fail
      refine (hla.out _ hB3).mono ?_
      rintro e w4 ⟨rfl,hb4⟩
      have hc4:=hc3.below hb4
      have o4:=o3.trans (Only.of_below hb4) (fun _ _ h=> h)
      go_wp2_with fail
      refine (zpz _ N cix lb z hc4 hnn (by omega) (by omega)).mono ?_
      rintro e w5 ⟨rfl,o5,hc5⟩
      go_wp2
      exact ⟨⟨i + 1,by omega,by go_num,o4.trans o5 (fun _ _ h=> h),by rw [hstep.out];exact hc5⟩,by simp [intOf];omega⟩
     ·have hk2':(k4==2)=false:=by rw [beq_eq_false_iff_ne];exact hk2
      rw [hk2',Bool.false_and] at hstep
      replace hstep:=hd' hstep
      clear hla
      go_wp2_with fail
      refine hsa.out.mono ?_
      rintro e w3 ⟨rfl,hb3⟩
      have hc3:=(hcr.below hb3).below (br.alloc lr (.cells #[.int .i64 k4,.int .i64 k5] 163))
      have o3:Only (atN N) W (w3.alloc (.cells #[.int .i64 k4,.int .i64 k5] 163)):=(hor.trans (Only.of_below hb3) (fun _ _ h=> h)).alloc _
      go_wp2_with fail
      refine (zpz _ N cix false z hc3 hnn (by omega) (by omega)).mono ?_
      rintro e w5 ⟨rfl,o5,hc5⟩
      go_wp2
      exact ⟨⟨i + 1,by omega,by go_num,o3.trans o5 (fun _ _ h=> h),by rw [hstep.out];exact hc5⟩,by simp [intOf];omega⟩
  ·have hie:i=q:=by omega
   subst hie
   clear hlt
   have hj0:¬ ((i:Int) < (i:Int)):=by omega
   go_wp2
   go_end0
   exact ⟨rfl,hW.trans hor (fun _ _ h=> h),hcr⟩
end

section

open Go.RowKit

attribute [local go_sem ↓] Go.wp_at_zero Go.wp_at_succ

theorem ycv (h:Hp) (v:Value) (w:World) (hr:RdZ .u64 w v h.xs) (hf:h.fit):
  Calls Tryz.prog 58 #[shV h,v] w fun e w'=> e= .returned (.agg #[.int .i64 h.count.f,.int .i64 h.count.t,.int .i64 h.count.l,.int .i64 h.count.o])/\Below w.heap.size w w':=by
 obtain ⟨ao,cap,hv,_,_,_⟩:=hr.cells
 generalize h.xs.length=n at hv
 subst hv
 have hop:=fun X hX=> z5c h (.slice ao n cap) X (hr.below (w':=X) hX)
 have hcv:h.count=if h.ok=true then h.cn h.p.toNat else Cn.zero:=rfl
 obtain ⟨S,hS⟩:∃ S:Obj,S= .cells #[.int .i64 h.p,.int .i64 h.c,.int .i64 h.m] 23:=⟨_,rfl⟩
 obtain ⟨Z,hZ⟩:∃ Z:Obj,Z= .cells #[.int .i64 0,.int .i64 0,.int .i64 0,.int .i64 0] 111:=⟨_,rfl⟩
 obtain ⟨t1,t2,t3,t4,t5⟩:=zh5 w S Z Z
 rcases Bool.eq_false_or_eq_true h.ok with hok | hok
 case inr=>
  rw [hok] at hop
  rw [hcv,hok,if_neg Bool.false_ne_true]
  replace hop:=hd' hop
  subst hS hZ
  go_enter Tryz.func58,Tryz.ntmps58
  go_wp2_with fail
  refine (hop.out _ t5).mono ?_
  rintro e w1 ⟨rfl,hb1⟩
  have hb2:=hb1.alloc hb1.size (.cells #[.int .i64 h.p,.int .i64 h.c,.int .i64 h.m,.slice ao n cap] 157)
  have r1:=(hb2.block _ (by rw [t4];omega)).trans t2
  have r2:=(hb2.block _ (by rw [t4];omega)).trans t3
  have hB:=t5.trans (hb2.mono t5.size)
  have a0:=(zac r1 0).trans (show _=some (.int .i64 0) from rfl)
  have a1:=(zac r1 1).trans (show _=some (.int .i64 0) from rfl)
  have a2:=(zac r1 2).trans (show _=some (.int .i64 0) from rfl)
  have a3:=(zac r1 3).trans (show _=some (.int .i64 0) from rfl)
  have aF:=zax r1
  have b0:=(zac r2 0).trans (show _=some (.int .i64 0) from rfl)
  have b1:=(zac r2 1).trans (show _=some (.int .i64 0) from rfl)
  have b2:=(zac r2 2).trans (show _=some (.int .i64 0) from rfl)
  have b3:=(zac r2 3).trans (show _=some (.int .i64 0) from rfl)
  go_upto_region 3 with fail
  generalize w1.alloc (.cells #[.int .i64 h.p,.int .i64 h.c,.int .i64 h.m,.slice ao n cap] 157)=W at *
  obtain ⟨H,hH,hH'⟩:=hidv w.heap.size
  rw [<- hH'] at a0 a1 a2 a3 b0 b1 b2 b3 aF hB ⊢
  clear hH' t1 t2 t3 t4 t5 r1 r2 hb1 hb2
  have hHR:H<=H + 1:=by omega
  have hRN:H + 1≠H + 1 + 1:=by omega
  generalize H + 1 + 1=N at *
  generalize H + 1=R at *
  go_wp2
  exact bodyPost_ret (v:= .agg #[.int .i64 0,.int .i64 0,.int .i64 0,.int .i64 0]) (by simp [results,Tryz.results58,go_sem,a0,a1,a2,a3]) rfl ⟨rfl,by rw [<- hH.out];exact ((((hB.setCell hHR _).setCell hHR _).setCell hHR _).setCell hHR _)⟩
 case inl=>
  have b:Bok w (.slice ao n cap) h:=⟨hok,hr,hf⟩
  obtain ⟨bp,_,_,_⟩:=b.bd
  rw [hok] at hop
  rw [hcv,hok,if_pos rfl]
  have hpg:=fun a X (hX:Below w.heap.size w X) ha=> zpo h (.slice ao n cap) a X (b.below hX) ha
  have hho:=fun a X (hX:Below w.heap.size w X) ha=> zy8 h (.slice ao n cap) a X (b.below hX) ha
  have hlv:=fun x X (hX:Below w.heap.size w X)=> zth h (.slice ao n cap) x X (b.below hX)
  obtain ⟨P,hP⟩:∃ P:Nat,Hid (h.p=P):=⟨h.p.toNat,hd' (by omega)⟩
  have hPt:h.p.toNat=P:=by have:=hP.out;omega
  rw [hPt]
  clear hPt
  have hcnS:∀ k:Nat,h.cn (k + 1)=(h.cn k).add (h.pgC k):=fun _=> rfl
  have hcnB:∀ k:Nat,k<=64->(h.cn k).nn/\(h.cn k).sum<=4096:=fun k hk=> ⟨h.ygi k,by rw [h.ydp];omega⟩
  have hpC:∀ a:Int,h.pgC a=if (h.hb a || !h.pb a)=true then zj7 (h.hb a && h.lv (h.hc a)) 64 else if h.pk a=0 then ⟨64,0,0,0⟩ else if h.pk a=2 then h.slS a (zbj (h.pa a)) (zah (h.pa a)).toNat else ⟨0,64,0,0⟩:=fun _=> rfl
  replace hop:=hd' hop
  replace hpg:=hd' hpg
  replace hho:=hd' hho
  replace hlv:=hd' hlv
  replace hcnS:=hd' hcnS
  replace hcnB:=hd' hcnB
  replace hpC:=hd' hpC
  replace hok:=hd' hok
  subst hS hZ
  go_enter Tryz.func58,Tryz.ntmps58
  go_wp2_with fail
  refine (hop.out _ t5).mono ?_
  rintro e w1 ⟨rfl,hb1⟩
  have hb2:=hb1.alloc hb1.size (.cells #[.int .i64 h.p,.int .i64 h.c,.int .i64 h.m,.slice ao n cap] 157)
  have r0:=(hb2.block _ (by rw [t4];omega)).trans t1
  have r1:=(hb2.block _ (by rw [t4];omega)).trans t2
  have r2:=(hb2.block _ (by rw [t4];omega)).trans t3
  have r3:=heap_alloc_new w1 (.cells #[.int .i64 h.p,.int .i64 h.c,.int .i64 h.m,.slice ao n cap] 157)
  have hB:=t5.trans (hb2.mono t5.size)
  have hsz1:=hb1.size
  go_upto_region 3 with fail
  obtain ⟨H,hH,hH'⟩:=hidv w.heap.size
  obtain ⟨K,hK,hK'⟩:=hidv w1.heap.size
  rw [<- hK'] at r3 ⊢
  rw [<- hH'] at r0 r1 r2 ⊢
  have hKH:H + 2 < K:=by rw [t4] at hsz1;omega
  have lS:=(Array.getElem?_eq_some_iff.1 r0).1
  have lR:=(Array.getElem?_eq_some_iff.1 r1).1
  have lK:=(Array.getElem?_eq_some_iff.1 r3).1
  have hwH:w.heap.size<=H + 1 + 1:=by omega
  have hc0:zco (w1.alloc (.cells #[.int .i64 h.p,.int .i64 h.c,.int .i64 h.m,.slice ao n cap] 157)) (H + 1 + 1) Cn.zero:=r2
  clear hK' hH' t1 t2 t3 t4 t5 hb1 hb2 hsz1 r2
  generalize w1.alloc (.cells #[.int .i64 h.p,.int .i64 h.c,.int .i64 h.m,.slice ao n cap] 157)=W at *
  have s0:W.cell? ⟨H,0,.none⟩=some (.int .i64 h.p):=zac r0 0
  have k0:W.cell? ⟨K,0,.none⟩=some (.int .i64 h.p):=zac r3 0
  have k1:W.cell? ⟨K,1,.none⟩=some (.int .i64 h.c):=zac r3 1
  have k2:W.cell? ⟨K,2,.none⟩=some (.int .i64 h.m):=zac r3 2
  have k3:W.cell? ⟨K,3,.none⟩=some (.slice ao n cap):=zac r3 3
  have hKN:K≠H + 1 + 1:=by omega
  have hHN:H≠H + 1 + 1:=by omega
  have hRN:H + 1≠H + 1 + 1:=by omega
  rw [hP.out] at s0
  clear r0 r3
  have hwR:w.heap.size<=H + 1:=by have:=hH.out;omega
  have hKN':K < H + 1 + 1\/H + 1 + 1 < K:=by omega
  generalize H + 1 + 1=N at *
  generalize H + 1=R at *
  go_wp2_with fail
  go_loopw [24] (fun vi wr=> ∃ i:Nat,i<=P/\vi= .int .i64 i/\Only (atN N) W wr/\zco wr N (h.cn i)) (fun vi _=> P - (intOf vi).toNat)
  case atStart=> exact ⟨0,Nat.zero_le _,rfl,Only.refl _ _,hc0⟩
  case round=>
   obtain ⟨i,hi,rfl,hor,hcr⟩:=hrel
   have hBr:=Only.zs3 hB hor hB.size hwH
   have d0:=(hor.zgk lK hKN 0).trans k0
   have d1:=(hor.zgk lK hKN 1).trans k1
   have d2:=(hor.zgk lK hKN 2).trans k2
   have d3:=(hor.zgk lK hKN 3).trans k3
   by_cases hlt:i < P
   ·have hpi:0<=(i:Int)/\(i:Int) < h.p:=by have:=hP.out;omega
    have hp64:i<=64:=by have:=hP.out;omega
    obtain ⟨hnn,hsm⟩:=hcnB.out i hp64
    have hbd:=Cn.bd hnn hsm
    have hstep:=hcnS.out i
    rw [hpC.out] at hstep
    have hpa:=hpg.out i wr hBr hpi
    have hha:=fun X hX=> hho.out i X hX hpi
    have hla:=hlv.out (h.hc i)
    have hsb:=fun X N c hX hN hc hn hs=> zyk h (.slice ao n cap) i (h.pa i) w X N c b hpi hX hN hc hn hs
    generalize h.pk i=pk at *
    generalize h.pa i=pa at *
    generalize h.pn i=pn at *
    generalize h.pb i=pb at *
    generalize h.hb i=hb at *
    generalize h.hc i=hc at *
    generalize h.lv hc=lb at *
    generalize h.cn i=cix at *
    replace hpa:=hd' hpa
    replace hha:=hd' hha
    replace hla:=hd' hla
    replace hsb:=hd' hsb
    replace hpi:=hd' hpi
    have fin:Hid (∀ X c,Only (atN N) W X->zco X N c->h.cn (i + 1)=c->∃ j:Nat,j<=P/\Value.int .i64 ((i:Int) + 1)= .int .i64 j/\Only (atN N) W X/\zco X N (h.cn j)):=
     hd' fun X c ho hc e=> ⟨i + 1,by omega,by go_num,ho,by rw [e];exact hc⟩
    go_wp2_with fail
    refine hpa.out.mono ?_
    rintro e w3 ⟨rfl,hb3⟩
    have o3:Only (atN N) W (w3.alloc (.cells #[.int .i64 pk,.int .i64 pa,.int .i64 pn] 160)):=(hor.trans (Only.of_below hb3) (fun _ _ h=> h)).alloc _
    have hc3:=(hcr.below hb3).below (br.alloc lr (.cells #[.int .i64 pk,.int .i64 pa,.int .i64 pn] 160))
    have g3:=heap_alloc_new w3 (.cells #[.int .i64 pk,.int .i64 pa,.int .i64 pn] 160)
    have hg3:w3.heap.size≠N:=by have:=(hcr.below hb3).lt;omega
    go_upto_region 9 with fail
    generalize w3.heap.size=G at g3 hg3 ⊢
    generalize w3.alloc (.cells #[.int .i64 pk,.int .i64 pa,.int .i64 pn] 160)=W3 at *
    have lG:=(Array.getElem?_eq_some_iff.1 g3).1
    have hB3:=Only.zs3 hB o3 hB.size hwH
    have d0:=(o3.zgk lK hKN 0).trans k0
    have d1:=(o3.zgk lK hKN 1).trans k1
    have d2:=(o3.zgk lK hKN 2).trans k2
    have d3:=(o3.zgk lK hKN 3).trans k3
    go_wp2_with fail
    refine (hha.out _ hB3).mono ?_
    rintro e w4 ⟨rfl,hb4⟩
    have o4:=o3.trans (Only.of_below hb4) (fun _ _ h=> h)
    have hc4:=hc3.below hb4
    have hB4:=Only.zs3 hB o4 hB.size hwH
    have d0:=(o4.zgk lK hKN 0).trans k0
    have d1:=(o4.zgk lK hKN 1).trans k1
    have d2:=(o4.zgk lK hKN 2).trans k2
    have d3:=(o4.zgk lK hKN 3).trans k3
    have g4:=(hb4.block _ lG).trans g3
    have p0:w4.cell? ⟨G,0,.none⟩=some (.int .i64 pk):=zac g4 0
    have p1:w4.cell? ⟨G,1,.none⟩=some (.int .i64 pa):=zac g4 1
    have n0:=hc4.c0
    have n1:=hc4.c1
    have nF:=hc4.fr
    clear hpa hha hb3 hb4 g3 g4 o3 hc3 hB3
    rcases Bool.eq_false_or_eq_true hb with hhb | hhb
    ·subst hhb
     replace hstep:h.cn (i + 1)=cix.add (zj7 lb 64):=hstep
     replace hstep:=hd' hstep
     go_wp2_with fail
     refine (hla.out _ hB4).mono ?_
     rintro e w5 ⟨rfl,hb5⟩
     have o5:=o4.trans (Only.of_below hb5) (fun _ _ h=> h)
     have hc5:=hc4.below hb5
     go_wp2_with fail
     refine (zpz _ _ cix lb 64 hc5 hnn (by omega) (by omega)).mono ?_
     rintro e w6 ⟨rfl,o6,hc6⟩
     go_wp2
     exact ⟨fin.out _ _ (o5.trans o6 (fun _ _ h=> h)) hc6 hstep.out,by simp [intOf];omega⟩
    ·subst hhb
     rcases Bool.eq_false_or_eq_true pb with hpb | hpb
     ·subst hpb
      rw [if_neg (by simp)] at hstep
      by_cases h0:pk=0
      ·rw [if_pos h0] at hstep
       subst h0
       replace hstep:=hd' hstep
       have w4':=wrp (cix.f + 64)
       go_wp2
       refine ⟨fin.out _ _ (o4.setCell (p:=⟨N,0,.none⟩) (.inl rfl) _) (hc4.set0 (cix.f + 64)) ?_,by simp [intOf];omega⟩
       rw [hstep.out];simp [Cn.add]
      ·rw [if_neg h0] at hstep
       have h0':(pk==0)=false:=by rw [beq_eq_false_iff_ne];exact h0
       by_cases h2:pk=2
       ·rw [if_pos h2] at hstep
        subst h2
        replace hstep:=hd' hstep
        go_wp2_with fail
        refine (hsb.out _ _ cix hB4 hwH hc4 hnn (by omega)).mono ?_
        rintro e w6 ⟨rfl,o6,hc6⟩
        go_wp2
        exact ⟨fin.out _ _ (o4.trans o6 (fun _ _ h=> h)) hc6 hstep.out,by simp [intOf];omega⟩
       ·rw [if_neg h2] at hstep
        have h2':(pk==2)=false:=by rw [beq_eq_false_iff_ne];exact h2
        replace hstep:=hd' hstep
        have w4':=wrp (cix.t + 64)
        go_wp2
        refine ⟨fin.out _ _ (o4.setCell (p:=⟨N,1,.none⟩) (.inl rfl) _) (hc4.set1 (cix.t + 64)) ?_,by simp [intOf];omega⟩
        rw [hstep.out];simp [Cn.add]
     ·subst hpb
      replace hstep:h.cn (i + 1)=cix.add (zj7 false 64):=hstep
      replace hstep:=hd' hstep
      go_wp2_with fail
      refine (zpz _ _ cix false 64 hc4 hnn (by omega) (by omega)).mono ?_
      rintro e w6 ⟨rfl,o6,hc6⟩
      go_wp2
      exact ⟨fin.out _ _ (o4.trans o6 (fun _ _ h=> h)) hc6 hstep.out,by simp [intOf];omega⟩
   ·have hie:i=P:=by omega
    subst hie
    clear hlt
    have hj0:¬ ((i:Int) < (i:Int)):=by omega
    have n0:=hcr.c0
    have n1:=hcr.c1
    have n2:=hcr.c2
    have n3:=hcr.c3
    have r1':=(hor.block _ lR hRN).trans r1
    have a0:=(zac r1' 0).trans (show _=some (.int .i64 0) from rfl)
    have a1:=(zac r1' 1).trans (show _=some (.int .i64 0) from rfl)
    have a2:=(zac r1' 2).trans (show _=some (.int .i64 0) from rfl)
    have a3:=(zac r1' 3).trans (show _=some (.int .i64 0) from rfl)
    have aF:=zax r1'
    go_wp2
    exact bodyPost_ret (v:= .agg #[.int .i64 (h.cn i).f,.int .i64 (h.cn i).t,.int .i64 (h.cn i).l,.int .i64 (h.cn i).o]) (by simp [results,Tryz.results58,go_sem,a0,a1,a2,a3]) rfl ⟨rfl,((((hBr.setCell hwR _).setCell hwR _).setCell hwR _).setCell hwR _)⟩
end

section

open Go.RowKit Fl

def z88:Value:= .agg #[.int .i64 0,.int .i64 0,.int .i64 0,.int .i64 0,.int .i64 0,.float .f64 0]
theorem yej:(Tryz.prog.info? 46).map (fun i=> (i.zero,i.size,i.bytes))=some (some z88,6,48):=by kernel_rfl
abbrev OC:=OwnC 46
theorem Ch.one (c:Ch):∀ u ∈ c.cells,u.oneCell'=true:=by
 intro u hu
 simp only [Ch.cells,List.mem_cons,List.not_mem_nil,or_false] at hu
 rcases hu with rfl | rfl | rfl | rfl | rfl | rfl <;> rfl
end

section

open Go.RowKit Fl

def yhb (k:Int):Bool:=decide (1<=k/\k<=4)
theorem yhc (c:Ch) (w:World):Calls Tryz.prog 66 #[.agg c.cells.toArray] w fun e w'=> e= .returned (.bool (yhb c.kind))/\Below w.heap.size w w':=by
 obtain ⟨kd,cl,a,b,d,bi⟩:=c
 show Calls Tryz.prog 66 #[.agg #[.int .i64 kd,.int .i64 cl,.int .i64 a,.int .i64 b,.int .i64 d,.float .f64 bi]] w fun e w'=> e= .returned (.bool (yhb kd))/\Below w.heap.size w w'
 by_cases h1:1<=kd
 ·by_cases h2:kd<=4
  ·have hm:yhb kd=true:=decide_eq_true ⟨h1,h2⟩
   rw [hm]
   have d1:decide (kd>=1)=true:=decide_eq_true h1
   have d2:decide (kd<=4)=true:=decide_eq_true h2
   go_enter Tryz.func66,Tryz.ntmps66
   go_wp2
   go_ret
   exact ⟨rfl,br.alloc lr _⟩
  ·have hm:yhb kd=false:=decide_eq_false (fun h=> h2 h.2)
   rw [hm]
   have d1:decide (kd>=1)=true:=decide_eq_true h1
   have d2:decide (kd<=4)=false:=decide_eq_false h2
   go_enter Tryz.func66,Tryz.ntmps66
   go_wp2
   go_ret
   exact ⟨rfl,br.alloc lr _⟩
 ·have hm:yhb kd=false:=decide_eq_false (fun h=> h1 h.1)
  rw [hm]
  have d1:decide (kd>=1)=false:=decide_eq_false h1
  go_enter Tryz.func66,Tryz.ntmps66
  go_wp2
  go_ret
  exact ⟨rfl,br.alloc lr _⟩
theorem RdI.one (c:Int) (w:World) (t:TypeId):RdI (w.alloc (.cells #[.int .i64 c] t)) (.slice (some ⟨w.heap.size,0,.none⟩) 1 1) [c]:=by
 refine ⟨_,1,rfl,Nat.le_refl _,by omega,fun _=> ⟨w.heap.size,0,rfl,?_,?_⟩⟩
 ·show _ < (w.heap.push _).size
  rw [Array.size_push];omega
 ·intro i hi
  have hi0:i=0:=by simpa using hi
  subst hi0
  exact cell_of_row _ _ _ _ _ (0,0) (heap_alloc_new w _)
end

section

open Go.RowKit Fl

def Ch.fit (c:Ch):Prop:=c.bias < 18446744073709551616
end

section

open Go.RowKit Fl

section

variable {P:Program} {w:World} {a:Addr} {m:Mode}

theorem zm7 (k:FloatKind) (x:Nat):(store a (.float k x) m).run P w=stored P w a (.float k x) m:=run_store P w a _ m rfl
end

attribute [local go_sem] zm7

end

section

open Go.RowKit Fl

attribute [local go_sem ↓] Go.wp_at_zero Go.wp_at_succ

attribute [local go_sem high] zm6 zml zky

theorem RdC.s {w:World} {v:Value} {xs:List Ch} (h:RdC w v xs):RdS w 6 v xs.length (zdm xs):=by
 obtain ⟨ao,cap,e,h1,h2,h3⟩:=h
 refine ⟨ao,cap,e,h1,h2,zlj xs,fun hn=> ?_⟩
 obtain ⟨b,off,ea,hlt,hc⟩:=h3 (fun h=> by subst h;simp at hn)
 refine ⟨b,off,ea,hlt,fun i hi=> ?_⟩
 have e1:i=i / 6 * 6 + i % 6:=by omega
 rw [e1,<- Nat.add_assoc,hc (i / 6) (i % 6) (by omega) (by omega),zmn xs _ _ (by omega) (by omega)]
theorem RdS.c {w:World} {v:Value} {n:Nat} {xs:List Ch} (h:RdS w 6 v n (zdm xs)):RdC w v xs:=by
 obtain ⟨ao,cap,e,h1,h2,h3,h4⟩:=h
 have hn:n=xs.length:=by rw [zlj] at h3;omega
 subst hn
 refine ⟨ao,cap,e,h1,h2,fun hx=> ?_⟩
 obtain ⟨b,off,ea,hlt,hc⟩:=h4 (fun h=> hx (List.eq_nil_of_length_eq_zero h))
 refine ⟨b,off,ea,hlt,fun i j hi hj=> ?_⟩
 rw [<- zmn xs i j hi hj,Nat.add_assoc]
 exact hc _ (by omega)
theorem zxt (xs:List Ch) (k:Nat):(zdm xs).drop (k * 6)=zdm (xs.drop k):=by
 induction k generalizing xs with
 | zero=> simp
 | succ k ih=>
  cases xs with
  | nil=> simp [zdm]
  | cons x xs=>
   show (x.cells ++ zdm xs).drop _=zdm (xs.drop k)
   rw [<- ih,List.drop_append,show x.cells.length=6 from rfl,show (k + 1) * 6 - 6=k * 6 from by omega,List.drop_of_length_le (by show 6<=_;omega)]
   rfl
theorem zy5 (xs:List Ch) (k:Nat):(zdm xs).take (k * 6)=zdm (xs.take k):=by
 induction k generalizing xs with
 | zero=> simp [zdm]
 | succ k ih=>
  cases xs with
  | nil=> simp [zdm]
  | cons x xs=>
   show (x.cells ++ zdm xs).take _=x.cells ++ zdm (xs.take k)
   rw [<- ih,List.take_append,show x.cells.length=6 from rfl,show (k + 1) * 6 - 6=k * 6 from by omega,List.take_of_length_le (by show 6<=_;omega)]
theorem RdC.cut {w:World} {ao:Option Addr} {n cap l h:Nat} {xs:List Ch} (r:RdC w (.slice ao n cap) xs) (hl:l<=h) (hh:h<=n):RdC w (cutV ao l h cap 6) ((xs.drop l).take (h - l)):=by
 have hn:n=xs.length:=by obtain ⟨_,_,e,_⟩:=r;injection e
 subst hn
 have:=r.s.cut hl hh
 rw [zxt,zy5] at this
 exact this.c
theorem RdC.first {w:World} {v:Value} {x:Ch} {xs:List Ch} (r:RdC w v (x::xs)):∃ b off cap,v= .slice (some ⟨b,off,.none⟩) (xs.length + 1) cap/\xs.length + 1<=cap/\(cap:Int)<=9223372036854775807/\b < w.heap.size/\
  w.cell? ⟨b,off,.none⟩=some (.int .i64 x.kind)/\w.cell? ⟨b,off + 1,.none⟩=some (.int .i64 x.client)/\w.cell? ⟨b,off + 2,.none⟩=some (.int .i64 x.ok)/\w.cell? ⟨b,off + 3,.none⟩=some (.int .i64 x.oa)/\
  w.cell? ⟨b,off + 4,.none⟩=some (.int .i64 x.on)/\w.cell? ⟨b,off + 5,.none⟩=some (.float .f64 x.bias):=by
 obtain ⟨ao,cap,e,h1,h2,h3⟩:=r
 obtain ⟨b,off,rfl,hlt,hc⟩:=h3 (by simp)
 have hc':=fun j hj=> hc 0 j (by simp) hj
 simp only [Nat.zero_mul,Nat.add_zero,List.getElem_cons_zero] at hc'
 exact ⟨b,off,cap,e,h1,h2,hlt,hc' 0 (by omega),hc' 1 (by omega),hc' 2 (by omega),hc' 3 (by omega),hc' 4 (by omega),hc' 5 (by omega)⟩
theorem nm (k:Nat):∃ n,Hid (n=k)/\n=k:=⟨k,hd' rfl,rfl⟩
end

section

open Go.RowKit Fl

attribute [local go_sem ↓] Go.wp_at_zero Go.wp_at_succ

attribute [local go_sem high] zm6 zml zky

theorem yci:(Tryz.prog.info? 54).map (fun i=> (i.zero,i.size,i.bytes))=some (some z88,6,48):=by kernel_rfl
end

section

open Go.RowKit Fl

attribute [local go_sem ↓] Go.wp_at_zero Go.wp_at_succ

end

section

open Go.RowKit Fl

abbrev OR:=OwnC 54
end

section

open Go.RowKit Fl

attribute [local go_sem ↓] Go.wp_at_zero Go.wp_at_succ

attribute [local go_sem high] zm6 zml zky

theorem RdC.nth {w:World} {ao:Option Addr} {n cap:Nat} {xs:List Ch} (r:RdC w (.slice ao n cap) xs) (i:Nat) (hi:i < xs.length):∃ b off,ao=some ⟨b,off,.none⟩/\b < w.heap.size/\
  w.cell? ⟨b,off + i * 6,.none⟩=some (.int .i64 xs[i].kind)/\w.cell? ⟨b,off + i * 6 + 1,.none⟩=some (.int .i64 xs[i].client)/\w.cell? ⟨b,off + i * 6 + 2,.none⟩=some (.int .i64 xs[i].ok)/\w.cell? ⟨b,off + i * 6 + 3,.none⟩=some (.int .i64 xs[i].oa)/\
  w.cell? ⟨b,off + i * 6 + 4,.none⟩=some (.int .i64 xs[i].on)/\w.cell? ⟨b,off + i * 6 + 5,.none⟩=some (.float .f64 xs[i].bias):=by
 obtain ⟨ao',cap',e,h1,h2,h3⟩:=r
 injection e with e1 _ _
 subst e1
 obtain ⟨b,off,rfl,hlt,hc⟩:=h3 (fun h=> by subst h;simp at hi)
 exact ⟨b,off,rfl,hlt,hc i 0 hi (by omega),hc i 1 hi (by omega),hc i 2 hi (by omega),hc i 3 hi (by omega),hc i 4 hi (by omega),hc i 5 hi (by omega)⟩
end

section

open Go.RowKit Fl

attribute [local go_sem ↓] Go.wp_at_zero Go.wp_at_succ

theorem ycu (xs:List Ch) (v:Value) (w:World) (hr:RdC w v xs) (hsz:xs.length<=100000):
  Calls Tryz.prog 19 #[v] w fun e w'=> ∃ v',e= .returned v'/\Below w.heap.size w w'/\OwnC 46 w.heap.size w' v' xs:=by
 obtain ⟨ao,cap,e,hcap,hcm,_⟩:=id hr
 subst e
 obtain ⟨n,hn,hn'⟩:=nm xs.length
 have hr':=hr
 rw [<- hn'] at hr' hcap hsz ⊢
 clear hn'
 obtain ⟨i0,hi0,hz0,hz1,hz2⟩:=info_parts yej
 go_enter Tryz.func19,Tryz.ntmps19
 go_wp2
 go_loopw [3,4] (fun vo vi wr=> ∃ i:Nat,i<=n/\vi= .int .i64 i/\wr.ownsRow w.heap.size 46 6 vo i (zdm (xs.take i))/\Below w.heap.size w wr) (fun _ vi _=> n - (intOf vi).toNat)
 case atStart=> exact ⟨0,Nat.zero_le _,rfl,OwnC.nil _ _ _,Below.refl _ _⟩
 case round=>
  obtain ⟨i,hi,rfl,ho,hbr⟩:=hrel
  have hbs:=hbr.size
  by_cases hlt:i < n
  ·have hix:i < xs.length:=hn.out ▸ hlt
   obtain ⟨b,off,rfl,hb,y0,y1,y2,y3,y4,y5⟩:=hr'.nth i hix
   have hxs:zdm (xs.take (i + 1))=zdm (xs.take i) ++ (xs[i]).cells:=by
    rw [List.take_succ_eq_append_getElem hix,zla];simp [zdm]
   generalize xs[i]=c at *
   have x0:=zai hbr _ _ _ y0
   have x1:=zai hbr _ _ _ y1
   have x2:=zai hbr _ _ _ y2
   have x3:=zai hbr _ _ _ y3
   have x4:=zai hbr _ _ _ y4
   have x5:=zai hbr _ _ _ y5
   have hxs':=hd' hxs
   have hi0':(0:Int)<=(i:Int):=by omega
   have hin:(i:Int) < (n:Int):=by omega
   clear hxs
   go_wp2
   go_region_held3 (fun w'=> w'.cell? ⟨b,off + i * 6,.none⟩=some (.int .i64 c.kind)/\w'.cell? ⟨b,off + i * 6 + 1,.none⟩=some (.int .i64 c.client)/\w'.cell? ⟨b,off + i * 6 + 2,.none⟩=some (.int .i64 c.ok)/\w'.cell? ⟨b,off + i * 6 + 3,.none⟩=some (.int .i64 c.oa)/\w'.cell? ⟨b,off + i * 6 + 4,.none⟩=some (.int .i64 c.on)/\w'.cell? ⟨b,off + i * 6 + 5,.none⟩=some (.float .f64 c.bias)) (first | go_keep | exact ⟨zai hbr1 _ _ _ y0,zai hbr1 _ _ _ y1,zai hbr1 _ _ _ y2,zai hbr1 _ _ _ y3,zai hbr1 _ _ _ y4,zai hbr1 _ _ _ y5⟩)
    ((refine zbg (by rfl) (.tmp 11) (.tmp 33) 32 (by rfl) w.heap.size 46 i0 _ 6 48 Tryz.underlying32 hi0 hz0 hz1 hz2 rfl (by omega) _ i (zdm (xs.take i)) (by rfl) ((ho.alloc _).drew) _ 1 c.cells (by rfl) (RdS.new (cs:=c.cells.toArray) (t:=46) (sz:=6) (n:=1) (heap_alloc_new wr _) rfl (by omega)) (Ch.one _) (by simp only [maxLen];omega) (by omega) (by simp;omega) ?_;intro v1 w1 hown1 hgrow1 hat1;have hbr1:=zaw (((hbr.alloc hbr.size _).drew)) ((ho.alloc _).drew) (by simp;omega) hgrow1))
   go_wp2
   refine ⟨⟨i + 1,by omega,by go_num,?_,hbr1⟩,by simp [intOf];omega⟩
   rw [hxs'.out]
   exact hown1
  ·have hie:i=n:=by omega
   subst hie
   have hj0:¬ ((i:Int) < (i:Int)):=by omega
   go_wp2
   go_ret
   refine ⟨_,rfl,hbr,?_⟩
   rw [List.take_of_length_le (by rw [<- hn.out];exact Nat.le_refl _)] at ho
   show wr.ownsRow _ _ 6 _ xs.length _
   rw [<- hn.out]
   exact ho
end

end Go.Proofs.YtampacmmhhilaaaGreat

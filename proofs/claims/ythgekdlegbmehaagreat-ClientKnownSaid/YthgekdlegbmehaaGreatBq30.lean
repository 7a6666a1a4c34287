/- What a client tells behind an access: its walk, where the job is of one kind (printed by wip/tell.py). -/
import Derived.Test.YthgekdlegbmehaaGreatBq28

set_option linter.all false
set_option maxHeartbeats 4000000
set_option maxRecDepth 100000
namespace Go.Proofs.YthgekdlegbmehaaGreat

open Go.RowKit

attribute [local go_sem ↓] Go.wp_at_zero Go.wp_at_succ

theorem zuo {q sp q1:Nat} {G:Nat->Prop} {s:Sh} {k:Kl} {sl:Value} {most:Int} {fs:List Fr} (t:Rr) {w:World} (h:zaa w q (zat s k false (.iface 93 (.agg #[.pointer (some ⟨q1,0,.none⟩)])) (.pointer (some ⟨sp,0,.none⟩))) 55) (hs:SK 0 w sp sl most fs) (hqs:¬ foot sp sl q) (hJ:RrO G w q1 s t) (hG:∀ b,G b->b≠q/\¬ foot sp sl b) (hGl:∀ b,G b->b < w.heap.size) (hg:(Jb.aga t).gave=true) (ht:k.told=false) (hd:t.done=false):
  Calls Tryz.prog 25 #[.pointer (some ⟨q,0,.none⟩)] w fun r w'=> zbp q sp s { k with told:=true } false (.iface 93 (.agg #[.pointer (some ⟨q1,0,.none⟩)])) sl most fs [zbw k.c k.op.a] w w' r:=by
 obtain ⟨i0,hi0,hz0,hz1,hz2⟩:=info_parts zdb
 have c1:=hd' (fun Y (hJ:RrO G Y q1 s t)=> zd8 hJ)
 have c2:=hd' (fun Y (hJ:RrO G Y q1 s t)=> zd5 hJ)
 rw [hg] at c1
 rw [hd] at c2
 obtain ⟨sp',sc,sm⟩:=s
 obtain ⟨kc,kf,⟨ok,oa,on⟩,kj,kt,ks⟩:=k
 dsimp only at ht
 subst ht
 dsimp only [zat] at h hJ c1 c2 ⊢
 clear hg
 clear hd
 have lq0:q < w.heap.size:=h.lt
 have lst:∀ b,foot sp sl b->b < w.heap.size:=fun b hb=> by rcases hb with rfl | hb;exact hs.lt;exact (hs.zem b hb).2
 have lq:q < w.heap.size:=lq0
 have x8:=ce (.iface 93 (.agg #[.pointer (some ⟨q1,0,.none⟩)])) (h.cell 8)
 have x10:=ce (.bool false) (h.cell 10)
 have c1w:=hd' (c1.out w hJ)
 go_enter Tryz.func25,Tryz.ntmps25
 go_upto_region 3 with (first | (go_at_call 158;(with_reducible refine c1w.out.mono ?_);rintro r w1 ⟨rfl,hb1⟩;have z8:=zai hb1 _ _ _ x8;have z10:=zai hb1 _ _ _ x10) | fail)
 have h1:=h.below hb1
 have hs1:=hs.below hb1
 have hJ1:=hJ.below hb1
 have on1:Only (fun b=> b=q\/foot sp sl b) w w1:=Only.of_below hb1
 clear h hs hJ x8 x10 lq c1 c1w hb1
 clear z8 z10
 have lq:q < w1.heap.size:=h1.lt
 have f1:=zax h1
 have x10:=ce (.bool false) (h1.cell 10)
 go_upto_region 4 with fail
 have h2:zaa (w1.setCell ⟨q,10,.none⟩ (.bool true)) q #[.int .i64 sp',.int .i64 sc,.int .i64 sm,.int .i64 kc,.int .i64 kf,.int .i64 ok,.int .i64 oa,.int .i64 on,.iface 93 (.agg #[.pointer (some ⟨q1,0,.none⟩)]),.bool false,.bool true,.pointer (some ⟨sp,0,.none⟩),.int .i64 ks] 55:=h1.set 10 (.bool true)
 have oq:Only (fun b=> b=q) w1 (w1.setCell ⟨q,10,.none⟩ (.bool true)):=Only.setCell (F:=fun b=> b=q) (Only.refl _ _) (.inl rfl) _
 have hs2:SK 0 (w1.setCell ⟨q,10,.none⟩ (.bool true)) sp sl most fs:=oq.stk hs1 (fun b hb e=> hqs (e ▸ hb))
 have hJ2:=hJ1.only oq (fun b hb e=> (hG b hb).1 e)
 have on2:=on1.trans oq (fun b _ hb=> .inl hb)
 generalize w1.setCell ⟨q,10,.none⟩ (.bool true)=w2 at *
 clear h1 hs1 hJ1 on1 x10 lq f1 oq
 have hbw:=on2.size
 have lq:q < w2.heap.size:=h2.lt
 have d3:=ci kc (h2.cell 3)
 have d6:=ci oa (h2.cell 6)
 go_wp2_with fail
 go_region_law
  (first
   | (refine zbg (by rfl) (.tmp 22) (.tmp 33) 32 (by rfl) w.heap.size 37 i0 _ 8 64 Tryz.underlying32 hi0 hz0 hz1 hz2 rfl (by omega) _ 0 [] (by rfl) (zel _ _) _ 1 (zbw kc oa).cells.toList (by rfl) (RdS.drew (evRd (zbw kc oa) w2)) (zfo _) (by simp only [maxLen];omega) (by omega) (by simp;omega) ?_;intro v3 w3 hown3 hgrow3 hat3;have hb3:=zaw ((Below.refl w.heap.size w2).alloc hbw (.cells (zbw kc oa).cells 37)).drew (zel w.heap.size _) (by simp;omega) hgrow3;have lq3:q < w3.heap.size:=(h2.belB hb3 lq0).lt;have y8:w3.cell? ⟨q,8,.none⟩=some (.iface 93 (.agg #[.pointer (some ⟨q1,0,.none⟩)])):=(h2.belB hb3 lq0).cell 8)
   | fail)
 all_goals
  have h3:=h2.belB hb3 lq0
  have hs3:=(zdy hb3).stk hs2 (fun b hb e=> by have:=lst b hb;omega)
  have hJ3:=hJ2.only (zdy hb3) (fun b hb e=> by have:=hGl b hb;omega)
  have on3:=zfp on2 hb3
  have hbw3:=on3.size
  obtain ⟨vo3,vc3,rfl,_,_,_⟩:=RdS.zew hown3
  rw [Nat.zero_add,List.nil_append] at hown3
  clear h2 hs2 hJ2 on2 hbw lq d3 d6 hgrow3 hat3 hb3
  have c2w:=hd' (c2.out w3 hJ3)
  go_wp2_with (first | (go_at_call 154;(with_reducible refine c2w.out.mono ?_);rintro r w4 ⟨rfl,hb4⟩;have y9:=zai hb4 _ _ _ y8) | fail)
  go_returns
  refine ⟨⟨_,rfl,?_⟩,h3.below hb4,hs3.below hb4,on3.tb hb4⟩
  exact zav hown3 hb4
theorem ztu {q sp q1:Nat} {G:Nat->Prop} {s:Sh} {k:Kl} {sl:Value} {most:Int} {fs:List Fr} (t:Rr) {w:World} (h:zaa w q (zat s k false (.iface 93 (.agg #[.pointer (some ⟨q1,0,.none⟩)])) (.pointer (some ⟨sp,0,.none⟩))) 55) (hs:SK 0 w sp sl most fs) (hqs:¬ foot sp sl q) (hJ:RrO G w q1 s t) (hG:∀ b,G b->b≠q/\¬ foot sp sl b) (hGl:∀ b,G b->b < w.heap.size) (hg:(Jb.aga t).gave=false) (hd:t.done=false):
  Calls Tryz.prog 25 #[.pointer (some ⟨q,0,.none⟩)] w fun r w'=> zbp q sp s { k with told:=k.told } false (.iface 93 (.agg #[.pointer (some ⟨q1,0,.none⟩)])) sl most fs [] w w' r:=by
 obtain ⟨i0,hi0,hz0,hz1,hz2⟩:=info_parts zdb
 have c1:=hd' (fun Y (hJ:RrO G Y q1 s t)=> zd8 hJ)
 have c2:=hd' (fun Y (hJ:RrO G Y q1 s t)=> zd5 hJ)
 rw [hg] at c1
 rw [hd] at c2
 obtain ⟨sp',sc,sm⟩:=s
 obtain ⟨kc,kf,⟨ok,oa,on⟩,kj,kt,ks⟩:=k
 dsimp only [zat] at h hJ c1 c2 ⊢
 clear hg
 clear hd
 have lq0:q < w.heap.size:=h.lt
 have lst:∀ b,foot sp sl b->b < w.heap.size:=fun b hb=> by rcases hb with rfl | hb;exact hs.lt;exact (hs.zem b hb).2
 have lq:q < w.heap.size:=lq0
 have x8:=ce (.iface 93 (.agg #[.pointer (some ⟨q1,0,.none⟩)])) (h.cell 8)
 have x10:=ce (.bool kt) (h.cell 10)
 have c1w:=hd' (c1.out w hJ)
 go_enter Tryz.func25,Tryz.ntmps25
 go_upto_region 5 with (first | (go_at_call 158;(with_reducible refine c1w.out.mono ?_);rintro r w1 ⟨rfl,hb1⟩;have z8:=zai hb1 _ _ _ x8;have z10:=zai hb1 _ _ _ x10) | fail)
 have h3:=h.below hb1
 have hs3:=hs.below hb1
 have hJ3:=hJ.below hb1
 have on3:Only (fun b=> b=q\/foot sp sl b) w w1:=Only.of_below hb1
 have hbw3:=on3.size
 have hown3:=zel w.heap.size w1
 clear h hs hJ x8 x10 lq c1 c1w hb1 z8 z10
 have lq3:q < w1.heap.size:=h3.lt
 have y8:=ce (.iface 93 (.agg #[.pointer (some ⟨q1,0,.none⟩)])) (h3.cell 8)
 have c2w:=hd' (c2.out w1 hJ3)
 go_wp2_with (first | (go_at_call 154;(with_reducible refine c2w.out.mono ?_);rintro r w4 ⟨rfl,hb4⟩;have y9:=zai hb4 _ _ _ y8) | fail)
 go_returns
 refine ⟨⟨_,rfl,?_⟩,h3.below hb4,hs3.below hb4,on3.tb hb4⟩
 exact zav hown3 hb4
theorem zus {q sp q1:Nat} {G:Nat->Prop} {s:Sh} {k:Kl} {sl:Value} {most:Int} {fs:List Fr} (t:Rr) {w:World} (h:zaa w q (zat s k false (.iface 93 (.agg #[.pointer (some ⟨q1,0,.none⟩)])) (.pointer (some ⟨sp,0,.none⟩))) 55) (hs:SK 0 w sp sl most fs) (hqs:¬ foot sp sl q) (hJ:RrO G w q1 s t) (hG:∀ b,G b->b≠q/\¬ foot sp sl b) (hGl:∀ b,G b->b < w.heap.size) (hg:(Jb.aga t).gave=true) (ht:k.told=true) (hd:t.done=false):
  Calls Tryz.prog 25 #[.pointer (some ⟨q,0,.none⟩)] w fun r w'=> zbp q sp s { k with told:=k.told } false (.iface 93 (.agg #[.pointer (some ⟨q1,0,.none⟩)])) sl most fs [] w w' r:=by
 obtain ⟨i0,hi0,hz0,hz1,hz2⟩:=info_parts zdb
 have c1:=hd' (fun Y (hJ:RrO G Y q1 s t)=> zd8 hJ)
 have c2:=hd' (fun Y (hJ:RrO G Y q1 s t)=> zd5 hJ)
 rw [hg] at c1
 rw [hd] at c2
 obtain ⟨sp',sc,sm⟩:=s
 obtain ⟨kc,kf,⟨ok,oa,on⟩,kj,kt,ks⟩:=k
 dsimp only at ht
 subst ht
 dsimp only [zat] at h hJ c1 c2 ⊢
 clear hg
 clear hd
 have lq0:q < w.heap.size:=h.lt
 have lst:∀ b,foot sp sl b->b < w.heap.size:=fun b hb=> by rcases hb with rfl | hb;exact hs.lt;exact (hs.zem b hb).2
 have lq:q < w.heap.size:=lq0
 have x8:=ce (.iface 93 (.agg #[.pointer (some ⟨q1,0,.none⟩)])) (h.cell 8)
 have x10:=ce (.bool true) (h.cell 10)
 have c1w:=hd' (c1.out w hJ)
 go_enter Tryz.func25,Tryz.ntmps25
 go_upto_region 5 with (first | (go_at_call 158;(with_reducible refine c1w.out.mono ?_);rintro r w1 ⟨rfl,hb1⟩;have z8:=zai hb1 _ _ _ x8;have z10:=zai hb1 _ _ _ x10) | fail)
 have h3:=h.below hb1
 have hs3:=hs.below hb1
 have hJ3:=hJ.below hb1
 have on3:Only (fun b=> b=q\/foot sp sl b) w w1:=Only.of_below hb1
 have hbw3:=on3.size
 have hown3:=zel w.heap.size w1
 clear h hs hJ x8 x10 lq c1 c1w hb1 z8 z10
 have lq3:q < w1.heap.size:=h3.lt
 have y8:=ce (.iface 93 (.agg #[.pointer (some ⟨q1,0,.none⟩)])) (h3.cell 8)
 have c2w:=hd' (c2.out w1 hJ3)
 go_wp2_with (first | (go_at_call 154;(with_reducible refine c2w.out.mono ?_);rintro r w4 ⟨rfl,hb4⟩;have y9:=zai hb4 _ _ _ y8) | fail)
 go_returns
 refine ⟨⟨_,rfl,?_⟩,h3.below hb4,hs3.below hb4,on3.tb hb4⟩
 exact zav hown3 hb4
theorem zvy {q sp q1:Nat} {G:Nat->Prop} {s:Sh} {k:Kl} {sl:Value} {most:Int} {fs:List Fr} (t:Rr) {w:World} (h:zaa w q (zat s k false (.iface 93 (.agg #[.pointer (some ⟨q1,0,.none⟩)])) (.pointer (some ⟨sp,0,.none⟩))) 55) (hs:SK 0 w sp sl most fs) (hqs:¬ foot sp sl q) (hJ:RrO G w q1 s t) (hG:∀ b,G b->b≠q/\¬ foot sp sl b) (hGl:∀ b,G b->b < w.heap.size) (hg:(Jb.aga t).gave=true) (ht:k.told=false) (hd:t.done=true) (hk:(Jb.aga t).took=none) (hfin:t.done=true->t.err=0->∃ r,t.res=some r):
  Calls Tryz.prog 25 #[.pointer (some ⟨q,0,.none⟩)] w fun r w'=> zbp q sp s { k with told:=true } true (.iface 93 (.agg #[.pointer (some ⟨q1,0,.none⟩)])) sl most fs [zbw k.c k.op.a,zaf k.c k.op 0 ((Jb.aga t).err)] w w' r:=by
 obtain ⟨i0,hi0,hz0,hz1,hz2⟩:=info_parts zdb
 have c1:=hd' (fun Y (hJ:RrO G Y q1 s t)=> zd8 hJ)
 have c2:=hd' (fun Y (hJ:RrO G Y q1 s t)=> zd5 hJ)
 have c3:=hd' (fun Y (hJ:RrO G Y q1 s t)=> zgc hfin hJ)
 have c4:=hd' (fun Y (hJ:RrO G Y q1 s t)=> zii hJ)
 rw [hg] at c1
 rw [hd] at c2
 rw [hk] at c3
 obtain ⟨sp',sc,sm⟩:=s
 obtain ⟨kc,kf,⟨ok,oa,on⟩,kj,kt,ks⟩:=k
 dsimp only at ht
 subst ht
 generalize (Jb.aga t).err=er at *
 dsimp only [zat] at h hJ c1 c2 c3 c4 ⊢
 clear hg
 clear hd hfin
 have lq0:q < w.heap.size:=h.lt
 have lst:∀ b,foot sp sl b->b < w.heap.size:=fun b hb=> by rcases hb with rfl | hb;exact hs.lt;exact (hs.zem b hb).2
 have lq:q < w.heap.size:=lq0
 have x8:=ce (.iface 93 (.agg #[.pointer (some ⟨q1,0,.none⟩)])) (h.cell 8)
 have x10:=ce (.bool false) (h.cell 10)
 have c1w:=hd' (c1.out w hJ)
 go_enter Tryz.func25,Tryz.ntmps25
 go_upto_region 3 with (first | (go_at_call 158;(with_reducible refine c1w.out.mono ?_);rintro r w1 ⟨rfl,hb1⟩;have z8:=zai hb1 _ _ _ x8;have z10:=zai hb1 _ _ _ x10) | fail)
 have h1:=h.below hb1
 have hs1:=hs.below hb1
 have hJ1:=hJ.below hb1
 have on1:Only (fun b=> b=q\/foot sp sl b) w w1:=Only.of_below hb1
 clear h hs hJ x8 x10 lq c1 c1w hb1
 clear z8 z10
 have lq:q < w1.heap.size:=h1.lt
 have f1:=zax h1
 have x10:=ce (.bool false) (h1.cell 10)
 go_upto_region 4 with fail
 have h2:zaa (w1.setCell ⟨q,10,.none⟩ (.bool true)) q #[.int .i64 sp',.int .i64 sc,.int .i64 sm,.int .i64 kc,.int .i64 kf,.int .i64 ok,.int .i64 oa,.int .i64 on,.iface 93 (.agg #[.pointer (some ⟨q1,0,.none⟩)]),.bool false,.bool true,.pointer (some ⟨sp,0,.none⟩),.int .i64 ks] 55:=h1.set 10 (.bool true)
 have oq:Only (fun b=> b=q) w1 (w1.setCell ⟨q,10,.none⟩ (.bool true)):=Only.setCell (F:=fun b=> b=q) (Only.refl _ _) (.inl rfl) _
 have hs2:SK 0 (w1.setCell ⟨q,10,.none⟩ (.bool true)) sp sl most fs:=oq.stk hs1 (fun b hb e=> hqs (e ▸ hb))
 have hJ2:=hJ1.only oq (fun b hb e=> (hG b hb).1 e)
 have on2:=on1.trans oq (fun b _ hb=> .inl hb)
 generalize w1.setCell ⟨q,10,.none⟩ (.bool true)=w2 at *
 clear h1 hs1 hJ1 on1 x10 lq f1 oq
 have hbw:=on2.size
 have lq:q < w2.heap.size:=h2.lt
 have d3:=ci kc (h2.cell 3)
 have d6:=ci oa (h2.cell 6)
 go_wp2_with fail
 go_region_law
  (first
   | (refine zbg (by rfl) (.tmp 22) (.tmp 33) 32 (by rfl) w.heap.size 37 i0 _ 8 64 Tryz.underlying32 hi0 hz0 hz1 hz2 rfl (by omega) _ 0 [] (by rfl) (zel _ _) _ 1 (zbw kc oa).cells.toList (by rfl) (RdS.drew (evRd (zbw kc oa) w2)) (zfo _) (by simp only [maxLen];omega) (by omega) (by simp;omega) ?_;intro v3 w3 hown3 hgrow3 hat3;have hb3:=zaw ((Below.refl w.heap.size w2).alloc hbw (.cells (zbw kc oa).cells 37)).drew (zel w.heap.size _) (by simp;omega) hgrow3;have lq3:q < w3.heap.size:=(h2.belB hb3 lq0).lt;have y8:w3.cell? ⟨q,8,.none⟩=some (.iface 93 (.agg #[.pointer (some ⟨q1,0,.none⟩)])):=(h2.belB hb3 lq0).cell 8)
   | fail)
 all_goals
  have h3:=h2.belB hb3 lq0
  have hs3:=(zdy hb3).stk hs2 (fun b hb e=> by have:=lst b hb;omega)
  have hJ3:=hJ2.only (zdy hb3) (fun b hb e=> by have:=hGl b hb;omega)
  have on3:=zfp on2 hb3
  have hbw3:=on3.size
  obtain ⟨vo3,vc3,rfl,_,_,_⟩:=RdS.zew hown3
  rw [Nat.zero_add,List.nil_append] at hown3
  clear h2 hs2 hJ2 on2 hbw lq d3 d6 hgrow3 hat3 hb3
  have c2w:=hd' (c2.out w3 hJ3)
  go_upto_region 8 with (first | (go_at_call 154;(with_reducible refine c2w.out.mono ?_);rintro r w4 ⟨rfl,hb4⟩;have y9:=zai hb4 _ _ _ y8) | fail)
  have h4:=h3.below hb4
  have hs4:=hs3.below hb4
  have hJ4:=hJ3.below hb4
  have on4:=on3.tb hb4
  have hown4:=zav hown3 hb4
  clear h3 hs3 hJ3 on3 hown3 hbw3 lq3 y8 c2w y9 c2 hb4
  have hbw4:=on4.size
  have lq4:q < w4.heap.size:=h4.lt
  have y8:=ce (.iface 93 (.agg #[.pointer (some ⟨q1,0,.none⟩)])) (h4.cell 8)
  have c3w:=hd' (c3.out w4 hJ4)
  replace c3w:Hid (Calls Tryz.prog 159 #[.agg #[.pointer (some ⟨q1,0,.none⟩)]] w4 fun e w'=> e= .returned (.tuple #[.agg #[.bool false,.int .i64 0,.int .i64 0,.int .i64 0,.int .i64 0],.bool false])/\Below w4.heap.size w4 w'):=c3w
  go_upto_region 12 with (first | (go_at_call 159;(with_reducible refine c3w.out.mono ?_);rintro r w5 ⟨rfl,hb5⟩) | fail)
  have hb6:=hb5.trans ((Below.refl w4.heap.size w5).alloc hb5.size (.cells #[.bool false,.int .i64 0,.int .i64 0,.int .i64 0,.int .i64 0] 101))
  have hB6:zaa (w5.alloc (.cells #[.bool false,.int .i64 0,.int .i64 0,.int .i64 0,.int .i64 0] 101)) w5.heap.size #[.bool false,.int .i64 0,.int .i64 0,.int .i64 0,.int .i64 0] 101:=heap_alloc_new _ _
  generalize w5.alloc (.cells #[.bool false,.int .i64 0,.int .i64 0,.int .i64 0,.int .i64 0] 101)=w6 at *
  obtain ⟨E,hEE,hEE'⟩:=hidv w5.heap.size
  rw [<- hEE'] at hB6;try rw [<- hEE']
  clear hEE'
  have h6:=h4.below hb6
  have hs6:=hs4.below hb6
  have hJ6:=hJ4.below hb6
  have on6:=on4.tb hb6
  have hown6:=zav hown4 hb6
  clear h4 hs4 hJ4 on4 hown4 hbw4 lq4 y8 c3w c3 hb5 hb6
  clear hB6
  have hbw6:=on6.size
  have lq6:q < w6.heap.size:=h6.lt
  have y8:=ce (.iface 93 (.agg #[.pointer (some ⟨q1,0,.none⟩)])) (h6.cell 8)
  have c4w:=hd' (c4.out w6 hJ6)
  have cans:=hd' (fun Y (hY:Below w6.heap.size w6 Y)=> zbn (s:=⟨sp',sc,sm⟩) (k:=⟨kc,kf,⟨ok,oa,on⟩,kj,true,ks⟩) (i:=false) (jv:= .iface 93 (.agg #[.pointer (some ⟨q1,0,.none⟩)])) er 0 (h6.below hY) (hs6.below hY) hqs)
  dsimp only [zat,Ev.val,Ev.cells,zaf] at cans
  have hFar:∀ b,w.heap.size<=b->¬ (b=q\/foot sp sl b):=fun b hb e=> by rcases e with rfl | e;omega;have:=lst b e;omega
  go_wp2_with (first
   | (go_at_call 157;(with_reducible refine c4w.out.mono ?_);rintro r w7 ⟨rfl,hb7⟩)
   | (go_at_call 20;(with_reducible refine (cans.out _ hb7).mono ?_);rintro r w8 ⟨rfl,h8,hs8,on8⟩;have hown8:=zkk (zav hown6 hb7) on8 hFar;have hbw8:w.heap.size<=w8.heap.size:=(Nat.le_trans hbw6 (Nat.le_trans hb7.size on8.size)))
   | (refine zay rfl (.tmp 64) (.tmp 73) 32 rfl w.heap.size 37 i0 _ 8 64 Tryz.underlying32 hi0 hz0 hz1 hz2 rfl (by omega) _ 1 ((zbw kc oa).cells.toList) rfl (zav hown8 (br.alloc lr _)) _ 1 (zaf kc ⟨ok,oa,on⟩ 0 er).cells.toList rfl (evRd (zaf kc ⟨ok,oa,on⟩ 0 er) _) (zfo _) (by simp only [maxLen];omega) (by omega) (by simp;omega) ?_;intro v9 w9 hown9 hgrow9 hat9;have hb9:=zaw ((Below.refl w.heap.size w8).alloc hbw8 (.cells (zaf kc ⟨ok,oa,on⟩ 0 er).cells 37)) (zav hown8 (br.alloc lr _)) (by simp;omega) hgrow9)
   | fail)
  go_returns
  have on7:=(on6.tb hb7).trans on8 (fun _ _ e=> e)
  exact ⟨⟨_,rfl,hown9⟩,h8.belB hb9 lq0,(zdy hb9).stk hs8 (fun b hb e=> by rcases hb with rfl | hb;have:=lst b (.inl rfl);omega;cases hb),zfp on7 hb9⟩
theorem zvg {q sp q1:Nat} {G:Nat->Prop} {s:Sh} {k:Kl} {sl:Value} {most:Int} {fs:List Fr} (t:Rr) {w:World} (h:zaa w q (zat s k false (.iface 93 (.agg #[.pointer (some ⟨q1,0,.none⟩)])) (.pointer (some ⟨sp,0,.none⟩))) 55) (hs:SK 0 w sp sl most fs) (hqs:¬ foot sp sl q) (hJ:RrO G w q1 s t) (hG:∀ b,G b->b≠q/\¬ foot sp sl b) (hGl:∀ b,G b->b < w.heap.size) (hg:(Jb.aga t).gave=false) (hd:t.done=true) (hk:(Jb.aga t).took=none) (hfin:t.done=true->t.err=0->∃ r,t.res=some r):
  Calls Tryz.prog 25 #[.pointer (some ⟨q,0,.none⟩)] w fun r w'=> zbp q sp s { k with told:=k.told } true (.iface 93 (.agg #[.pointer (some ⟨q1,0,.none⟩)])) sl most fs [zaf k.c k.op 0 ((Jb.aga t).err)] w w' r:=by
 obtain ⟨i0,hi0,hz0,hz1,hz2⟩:=info_parts zdb
 have c1:=hd' (fun Y (hJ:RrO G Y q1 s t)=> zd8 hJ)
 have c2:=hd' (fun Y (hJ:RrO G Y q1 s t)=> zd5 hJ)
 have c3:=hd' (fun Y (hJ:RrO G Y q1 s t)=> zgc hfin hJ)
 have c4:=hd' (fun Y (hJ:RrO G Y q1 s t)=> zii hJ)
 rw [hg] at c1
 rw [hd] at c2
 rw [hk] at c3
 obtain ⟨sp',sc,sm⟩:=s
 obtain ⟨kc,kf,⟨ok,oa,on⟩,kj,kt,ks⟩:=k
 generalize (Jb.aga t).err=er at *
 dsimp only [zat] at h hJ c1 c2 c3 c4 ⊢
 clear hg
 clear hd hfin
 have lq0:q < w.heap.size:=h.lt
 have lst:∀ b,foot sp sl b->b < w.heap.size:=fun b hb=> by rcases hb with rfl | hb;exact hs.lt;exact (hs.zem b hb).2
 have lq:q < w.heap.size:=lq0
 have x8:=ce (.iface 93 (.agg #[.pointer (some ⟨q1,0,.none⟩)])) (h.cell 8)
 have x10:=ce (.bool kt) (h.cell 10)
 have c1w:=hd' (c1.out w hJ)
 go_enter Tryz.func25,Tryz.ntmps25
 go_upto_region 5 with (first | (go_at_call 158;(with_reducible refine c1w.out.mono ?_);rintro r w1 ⟨rfl,hb1⟩;have z8:=zai hb1 _ _ _ x8;have z10:=zai hb1 _ _ _ x10) | fail)
 have h3:=h.below hb1
 have hs3:=hs.below hb1
 have hJ3:=hJ.below hb1
 have on3:Only (fun b=> b=q\/foot sp sl b) w w1:=Only.of_below hb1
 have hbw3:=on3.size
 have hown3:=zel w.heap.size w1
 clear h hs hJ x8 x10 lq c1 c1w hb1 z8 z10
 have lq3:q < w1.heap.size:=h3.lt
 have y8:=ce (.iface 93 (.agg #[.pointer (some ⟨q1,0,.none⟩)])) (h3.cell 8)
 have c2w:=hd' (c2.out w1 hJ3)
 go_upto_region 8 with (first | (go_at_call 154;(with_reducible refine c2w.out.mono ?_);rintro r w4 ⟨rfl,hb4⟩;have y9:=zai hb4 _ _ _ y8) | fail)
 have h4:=h3.below hb4
 have hs4:=hs3.below hb4
 have hJ4:=hJ3.below hb4
 have on4:=on3.tb hb4
 have hown4:=zav hown3 hb4
 clear h3 hs3 hJ3 on3 hown3 hbw3 lq3 y8 c2w y9 c2 hb4
 have hbw4:=on4.size
 have lq4:q < w4.heap.size:=h4.lt
 have y8:=ce (.iface 93 (.agg #[.pointer (some ⟨q1,0,.none⟩)])) (h4.cell 8)
 have c3w:=hd' (c3.out w4 hJ4)
 replace c3w:Hid (Calls Tryz.prog 159 #[.agg #[.pointer (some ⟨q1,0,.none⟩)]] w4 fun e w'=> e= .returned (.tuple #[.agg #[.bool false,.int .i64 0,.int .i64 0,.int .i64 0,.int .i64 0],.bool false])/\Below w4.heap.size w4 w'):=c3w
 go_upto_region 12 with (first | (go_at_call 159;(with_reducible refine c3w.out.mono ?_);rintro r w5 ⟨rfl,hb5⟩) | fail)
 have hb6:=hb5.trans ((Below.refl w4.heap.size w5).alloc hb5.size (.cells #[.bool false,.int .i64 0,.int .i64 0,.int .i64 0,.int .i64 0] 101))
 have hB6:zaa (w5.alloc (.cells #[.bool false,.int .i64 0,.int .i64 0,.int .i64 0,.int .i64 0] 101)) w5.heap.size #[.bool false,.int .i64 0,.int .i64 0,.int .i64 0,.int .i64 0] 101:=heap_alloc_new _ _
 generalize w5.alloc (.cells #[.bool false,.int .i64 0,.int .i64 0,.int .i64 0,.int .i64 0] 101)=w6 at *
 obtain ⟨E,hEE,hEE'⟩:=hidv w5.heap.size
 rw [<- hEE'] at hB6;try rw [<- hEE']
 clear hEE'
 have h6:=h4.below hb6
 have hs6:=hs4.below hb6
 have hJ6:=hJ4.below hb6
 have on6:=on4.tb hb6
 have hown6:=zav hown4 hb6
 clear h4 hs4 hJ4 on4 hown4 hbw4 lq4 y8 c3w c3 hb5 hb6
 clear hB6
 have hbw6:=on6.size
 have lq6:q < w6.heap.size:=h6.lt
 have y8:=ce (.iface 93 (.agg #[.pointer (some ⟨q1,0,.none⟩)])) (h6.cell 8)
 have c4w:=hd' (c4.out w6 hJ6)
 have cans:=hd' (fun Y (hY:Below w6.heap.size w6 Y)=> zbn (s:=⟨sp',sc,sm⟩) (k:=⟨kc,kf,⟨ok,oa,on⟩,kj,kt,ks⟩) (i:=false) (jv:= .iface 93 (.agg #[.pointer (some ⟨q1,0,.none⟩)])) er 0 (h6.below hY) (hs6.below hY) hqs)
 dsimp only [zat,Ev.val,Ev.cells,zaf] at cans
 have hFar:∀ b,w.heap.size<=b->¬ (b=q\/foot sp sl b):=fun b hb e=> by rcases e with rfl | e;omega;have:=lst b e;omega
 go_wp2_with (first
  | (go_at_call 157;(with_reducible refine c4w.out.mono ?_);rintro r w7 ⟨rfl,hb7⟩)
  | (go_at_call 20;(with_reducible refine (cans.out _ hb7).mono ?_);rintro r w8 ⟨rfl,h8,hs8,on8⟩;have hown8:=zkk (zav hown6 hb7) on8 hFar;have hbw8:w.heap.size<=w8.heap.size:=(Nat.le_trans hbw6 (Nat.le_trans hb7.size on8.size)))
  | (refine zay rfl (.tmp 64) (.tmp 73) 32 rfl w.heap.size 37 i0 _ 8 64 Tryz.underlying32 hi0 hz0 hz1 hz2 rfl (by omega) _ 0 ([]) rfl (zav hown8 (br.alloc lr _)) _ 1 (zaf kc ⟨ok,oa,on⟩ 0 er).cells.toList rfl (evRd (zaf kc ⟨ok,oa,on⟩ 0 er) _) (zfo _) (by simp only [maxLen];omega) (by omega) (by simp;omega) ?_;intro v9 w9 hown9 hgrow9 hat9;have hb9:=zaw ((Below.refl w.heap.size w8).alloc hbw8 (.cells (zaf kc ⟨ok,oa,on⟩ 0 er).cells 37)) (zav hown8 (br.alloc lr _)) (by simp;omega) hgrow9)
  | fail)
 go_returns
 have on7:=(on6.tb hb7).trans on8 (fun _ _ e=> e)
 exact ⟨⟨_,rfl,hown9⟩,h8.belB hb9 lq0,(zdy hb9).stk hs8 (fun b hb e=> by rcases hb with rfl | hb;have:=lst b (.inl rfl);omega;cases hb),zfp on7 hb9⟩
theorem zvt {q sp q1:Nat} {G:Nat->Prop} {s:Sh} {k:Kl} {sl:Value} {most:Int} {fs:List Fr} (t:Rr) {w:World} (h:zaa w q (zat s k false (.iface 93 (.agg #[.pointer (some ⟨q1,0,.none⟩)])) (.pointer (some ⟨sp,0,.none⟩))) 55) (hs:SK 0 w sp sl most fs) (hqs:¬ foot sp sl q) (hJ:RrO G w q1 s t) (hG:∀ b,G b->b≠q/\¬ foot sp sl b) (hGl:∀ b,G b->b < w.heap.size) (hg:(Jb.aga t).gave=true) (ht:k.told=true) (hd:t.done=true) (hk:(Jb.aga t).took=none) (hfin:t.done=true->t.err=0->∃ r,t.res=some r):
  Calls Tryz.prog 25 #[.pointer (some ⟨q,0,.none⟩)] w fun r w'=> zbp q sp s { k with told:=k.told } true (.iface 93 (.agg #[.pointer (some ⟨q1,0,.none⟩)])) sl most fs [zaf k.c k.op 0 ((Jb.aga t).err)] w w' r:=by
 obtain ⟨i0,hi0,hz0,hz1,hz2⟩:=info_parts zdb
 have c1:=hd' (fun Y (hJ:RrO G Y q1 s t)=> zd8 hJ)
 have c2:=hd' (fun Y (hJ:RrO G Y q1 s t)=> zd5 hJ)
 have c3:=hd' (fun Y (hJ:RrO G Y q1 s t)=> zgc hfin hJ)
 have c4:=hd' (fun Y (hJ:RrO G Y q1 s t)=> zii hJ)
 rw [hg] at c1
 rw [hd] at c2
 rw [hk] at c3
 obtain ⟨sp',sc,sm⟩:=s
 obtain ⟨kc,kf,⟨ok,oa,on⟩,kj,kt,ks⟩:=k
 dsimp only at ht
 subst ht
 generalize (Jb.aga t).err=er at *
 dsimp only [zat] at h hJ c1 c2 c3 c4 ⊢
 clear hg
 clear hd hfin
 have lq0:q < w.heap.size:=h.lt
 have lst:∀ b,foot sp sl b->b < w.heap.size:=fun b hb=> by rcases hb with rfl | hb;exact hs.lt;exact (hs.zem b hb).2
 have lq:q < w.heap.size:=lq0
 have x8:=ce (.iface 93 (.agg #[.pointer (some ⟨q1,0,.none⟩)])) (h.cell 8)
 have x10:=ce (.bool true) (h.cell 10)
 have c1w:=hd' (c1.out w hJ)
 go_enter Tryz.func25,Tryz.ntmps25
 go_upto_region 5 with (first | (go_at_call 158;(with_reducible refine c1w.out.mono ?_);rintro r w1 ⟨rfl,hb1⟩;have z8:=zai hb1 _ _ _ x8;have z10:=zai hb1 _ _ _ x10) | fail)
 have h3:=h.below hb1
 have hs3:=hs.below hb1
 have hJ3:=hJ.below hb1
 have on3:Only (fun b=> b=q\/foot sp sl b) w w1:=Only.of_below hb1
 have hbw3:=on3.size
 have hown3:=zel w.heap.size w1
 clear h hs hJ x8 x10 lq c1 c1w hb1 z8 z10
 have lq3:q < w1.heap.size:=h3.lt
 have y8:=ce (.iface 93 (.agg #[.pointer (some ⟨q1,0,.none⟩)])) (h3.cell 8)
 have c2w:=hd' (c2.out w1 hJ3)
 go_upto_region 8 with (first | (go_at_call 154;(with_reducible refine c2w.out.mono ?_);rintro r w4 ⟨rfl,hb4⟩;have y9:=zai hb4 _ _ _ y8) | fail)
 have h4:=h3.below hb4
 have hs4:=hs3.below hb4
 have hJ4:=hJ3.below hb4
 have on4:=on3.tb hb4
 have hown4:=zav hown3 hb4
 clear h3 hs3 hJ3 on3 hown3 hbw3 lq3 y8 c2w y9 c2 hb4
 have hbw4:=on4.size
 have lq4:q < w4.heap.size:=h4.lt
 have y8:=ce (.iface 93 (.agg #[.pointer (some ⟨q1,0,.none⟩)])) (h4.cell 8)
 have c3w:=hd' (c3.out w4 hJ4)
 replace c3w:Hid (Calls Tryz.prog 159 #[.agg #[.pointer (some ⟨q1,0,.none⟩)]] w4 fun e w'=> e= .returned (.tuple #[.agg #[.bool false,.int .i64 0,.int .i64 0,.int .i64 0,.int .i64 0],.bool false])/\Below w4.heap.size w4 w'):=c3w
 go_upto_region 12 with (first | (go_at_call 159;(with_reducible refine c3w.out.mono ?_);rintro r w5 ⟨rfl,hb5⟩) | fail)
 have hb6:=hb5.trans ((Below.refl w4.heap.size w5).alloc hb5.size (.cells #[.bool false,.int .i64 0,.int .i64 0,.int .i64 0,.int .i64 0] 101))
 have hB6:zaa (w5.alloc (.cells #[.bool false,.int .i64 0,.int .i64 0,.int .i64 0,.int .i64 0] 101)) w5.heap.size #[.bool false,.int .i64 0,.int .i64 0,.int .i64 0,.int .i64 0] 101:=heap_alloc_new _ _
 generalize w5.alloc (.cells #[.bool false,.int .i64 0,.int .i64 0,.int .i64 0,.int .i64 0] 101)=w6 at *
 obtain ⟨E,hEE,hEE'⟩:=hidv w5.heap.size
 rw [<- hEE'] at hB6;try rw [<- hEE']
 clear hEE'
 have h6:=h4.below hb6
 have hs6:=hs4.below hb6
 have hJ6:=hJ4.below hb6
 have on6:=on4.tb hb6
 have hown6:=zav hown4 hb6
 clear h4 hs4 hJ4 on4 hown4 hbw4 lq4 y8 c3w c3 hb5 hb6
 clear hB6
 have hbw6:=on6.size
 have lq6:q < w6.heap.size:=h6.lt
 have y8:=ce (.iface 93 (.agg #[.pointer (some ⟨q1,0,.none⟩)])) (h6.cell 8)
 have c4w:=hd' (c4.out w6 hJ6)
 have cans:=hd' (fun Y (hY:Below w6.heap.size w6 Y)=> zbn (s:=⟨sp',sc,sm⟩) (k:=⟨kc,kf,⟨ok,oa,on⟩,kj,true,ks⟩) (i:=false) (jv:= .iface 93 (.agg #[.pointer (some ⟨q1,0,.none⟩)])) er 0 (h6.below hY) (hs6.below hY) hqs)
 dsimp only [zat,Ev.val,Ev.cells,zaf] at cans
 have hFar:∀ b,w.heap.size<=b->¬ (b=q\/foot sp sl b):=fun b hb e=> by rcases e with rfl | e;omega;have:=lst b e;omega
 go_wp2_with (first
  | (go_at_call 157;(with_reducible refine c4w.out.mono ?_);rintro r w7 ⟨rfl,hb7⟩)
  | (go_at_call 20;(with_reducible refine (cans.out _ hb7).mono ?_);rintro r w8 ⟨rfl,h8,hs8,on8⟩;have hown8:=zkk (zav hown6 hb7) on8 hFar;have hbw8:w.heap.size<=w8.heap.size:=(Nat.le_trans hbw6 (Nat.le_trans hb7.size on8.size)))
  | (refine zay rfl (.tmp 64) (.tmp 73) 32 rfl w.heap.size 37 i0 _ 8 64 Tryz.underlying32 hi0 hz0 hz1 hz2 rfl (by omega) _ 0 ([]) rfl (zav hown8 (br.alloc lr _)) _ 1 (zaf kc ⟨ok,oa,on⟩ 0 er).cells.toList rfl (evRd (zaf kc ⟨ok,oa,on⟩ 0 er) _) (zfo _) (by simp only [maxLen];omega) (by omega) (by simp;omega) ?_;intro v9 w9 hown9 hgrow9 hat9;have hb9:=zaw ((Below.refl w.heap.size w8).alloc hbw8 (.cells (zaf kc ⟨ok,oa,on⟩ 0 er).cells 37)) (zav hown8 (br.alloc lr _)) (by simp;omega) hgrow9)
  | fail)
 go_returns
 have on7:=(on6.tb hb7).trans on8 (fun _ _ e=> e)
 exact ⟨⟨_,rfl,hown9⟩,h8.belB hb9 lq0,(zdy hb9).stk hs8 (fun b hb e=> by rcases hb with rfl | hb;have:=lst b (.inl rfl);omega;cases hb),zfp on7 hb9⟩
theorem zvj {q sp q1:Nat} {G:Nat->Prop} {s:Sh} {k:Kl} {sl:Value} {most:Int} {fs:List Fr} (t:Rr) {w:World} (h:zaa w q (zat s k false (.iface 93 (.agg #[.pointer (some ⟨q1,0,.none⟩)])) (.pointer (some ⟨sp,0,.none⟩))) 55) (hs:SK 0 w sp sl most fs) (hqs:¬ foot sp sl q) (hJ:RrO G w q1 s t) (hG:∀ b,G b->b≠q/\¬ foot sp sl b) (hGl:∀ b,G b->b < w.heap.size) (hg:(Jb.aga t).gave=true) (ht:k.told=false) (hd:t.done=true) (bk:Blk) (hk:(Jb.aga t).took=some bk) (hk1:0<=bk.page/\bk.page<=64) (hk2:bk.large=false->0<=bk.slot/\bk.slot<=16) (hk3:0<=bk.pages/\bk.pages<=64) (hfin:t.done=true->t.err=0->∃ r,t.res=some r):
  Calls Tryz.prog 25 #[.pointer (some ⟨q,0,.none⟩)] w fun r w'=> zbp q sp s { k with told:=true } true (.iface 93 (.agg #[.pointer (some ⟨q1,0,.none⟩)])) sl most fs [zbw k.c k.op.a,zb5 k.c bk.at' bk.len,zaf k.c k.op (bk.at') ((Jb.aga t).err)] w w' r:=by
 obtain ⟨i0,hi0,hz0,hz1,hz2⟩:=info_parts zdb
 have c1:=hd' (fun Y (hJ:RrO G Y q1 s t)=> zd8 hJ)
 have c2:=hd' (fun Y (hJ:RrO G Y q1 s t)=> zd5 hJ)
 have c3:=hd' (fun Y (hJ:RrO G Y q1 s t)=> zgc hfin hJ)
 have c4:=hd' (fun Y (hJ:RrO G Y q1 s t)=> zii hJ)
 rw [hg] at c1
 rw [hd] at c2
 rw [hk] at c3
 obtain ⟨sp',sc,sm⟩:=s
 obtain ⟨kc,kf,⟨ok,oa,on⟩,kj,kt,ks⟩:=k
 dsimp only at ht
 subst ht
 generalize (Jb.aga t).err=er at *
 dsimp only [zat] at h hJ c1 c2 c3 c4 ⊢
 have cat:=hd' (fun W=> zjy bk W hk1 hk2)
 have cln:=hd' (fun W=> zih bk W hk3)
 clear hk hk1 hk2 hk3
 generalize bk.at'=bat at *
 generalize bk.len=bln at *
 obtain ⟨bl,bp,bs,bkk,bn⟩:=bk
 dsimp only at c3 cat cln
 clear hg
 clear hd hfin
 have lq0:q < w.heap.size:=h.lt
 have lst:∀ b,foot sp sl b->b < w.heap.size:=fun b hb=> by rcases hb with rfl | hb;exact hs.lt;exact (hs.zem b hb).2
 have lq:q < w.heap.size:=lq0
 have x8:=ce (.iface 93 (.agg #[.pointer (some ⟨q1,0,.none⟩)])) (h.cell 8)
 have x10:=ce (.bool false) (h.cell 10)
 have c1w:=hd' (c1.out w hJ)
 go_enter Tryz.func25,Tryz.ntmps25
 go_upto_region 3 with (first | (go_at_call 158;(with_reducible refine c1w.out.mono ?_);rintro r w1 ⟨rfl,hb1⟩;have z8:=zai hb1 _ _ _ x8;have z10:=zai hb1 _ _ _ x10) | fail)
 have h1:=h.below hb1
 have hs1:=hs.below hb1
 have hJ1:=hJ.below hb1
 have on1:Only (fun b=> b=q\/foot sp sl b) w w1:=Only.of_below hb1
 clear h hs hJ x8 x10 lq c1 c1w hb1
 clear z8 z10
 have lq:q < w1.heap.size:=h1.lt
 have f1:=zax h1
 have x10:=ce (.bool false) (h1.cell 10)
 go_upto_region 4 with fail
 have h2:zaa (w1.setCell ⟨q,10,.none⟩ (.bool true)) q #[.int .i64 sp',.int .i64 sc,.int .i64 sm,.int .i64 kc,.int .i64 kf,.int .i64 ok,.int .i64 oa,.int .i64 on,.iface 93 (.agg #[.pointer (some ⟨q1,0,.none⟩)]),.bool false,.bool true,.pointer (some ⟨sp,0,.none⟩),.int .i64 ks] 55:=h1.set 10 (.bool true)
 have oq:Only (fun b=> b=q) w1 (w1.setCell ⟨q,10,.none⟩ (.bool true)):=Only.setCell (F:=fun b=> b=q) (Only.refl _ _) (.inl rfl) _
 have hs2:SK 0 (w1.setCell ⟨q,10,.none⟩ (.bool true)) sp sl most fs:=oq.stk hs1 (fun b hb e=> hqs (e ▸ hb))
 have hJ2:=hJ1.only oq (fun b hb e=> (hG b hb).1 e)
 have on2:=on1.trans oq (fun b _ hb=> .inl hb)
 generalize w1.setCell ⟨q,10,.none⟩ (.bool true)=w2 at *
 clear h1 hs1 hJ1 on1 x10 lq f1 oq
 have hbw:=on2.size
 have lq:q < w2.heap.size:=h2.lt
 have d3:=ci kc (h2.cell 3)
 have d6:=ci oa (h2.cell 6)
 go_wp2_with fail
 go_region_law
  (first
   | (refine zbg (by rfl) (.tmp 22) (.tmp 33) 32 (by rfl) w.heap.size 37 i0 _ 8 64 Tryz.underlying32 hi0 hz0 hz1 hz2 rfl (by omega) _ 0 [] (by rfl) (zel _ _) _ 1 (zbw kc oa).cells.toList (by rfl) (RdS.drew (evRd (zbw kc oa) w2)) (zfo _) (by simp only [maxLen];omega) (by omega) (by simp;omega) ?_;intro v3 w3 hown3 hgrow3 hat3;have hb3:=zaw ((Below.refl w.heap.size w2).alloc hbw (.cells (zbw kc oa).cells 37)).drew (zel w.heap.size _) (by simp;omega) hgrow3;have lq3:q < w3.heap.size:=(h2.belB hb3 lq0).lt;have y8:w3.cell? ⟨q,8,.none⟩=some (.iface 93 (.agg #[.pointer (some ⟨q1,0,.none⟩)])):=(h2.belB hb3 lq0).cell 8)
   | fail)
 all_goals
  have h3:=h2.belB hb3 lq0
  have hs3:=(zdy hb3).stk hs2 (fun b hb e=> by have:=lst b hb;omega)
  have hJ3:=hJ2.only (zdy hb3) (fun b hb e=> by have:=hGl b hb;omega)
  have on3:=zfp on2 hb3
  have hbw3:=on3.size
  obtain ⟨vo3,vc3,rfl,_,_,_⟩:=RdS.zew hown3
  rw [Nat.zero_add,List.nil_append] at hown3
  clear h2 hs2 hJ2 on2 hbw lq d3 d6 hgrow3 hat3 hb3
  have c2w:=hd' (c2.out w3 hJ3)
  go_upto_region 8 with (first | (go_at_call 154;(with_reducible refine c2w.out.mono ?_);rintro r w4 ⟨rfl,hb4⟩;have y9:=zai hb4 _ _ _ y8) | fail)
  have h4:=h3.below hb4
  have hs4:=hs3.below hb4
  have hJ4:=hJ3.below hb4
  have on4:=on3.tb hb4
  have hown4:=zav hown3 hb4
  clear h3 hs3 hJ3 on3 hown3 hbw3 lq3 y8 c2w y9 c2 hb4
  have hbw4:=on4.size
  have lq4:q < w4.heap.size:=h4.lt
  have y8:=ce (.iface 93 (.agg #[.pointer (some ⟨q1,0,.none⟩)])) (h4.cell 8)
  have c3w:=hd' (c3.out w4 hJ4)
  replace c3w:Hid (Calls Tryz.prog 159 #[.agg #[.pointer (some ⟨q1,0,.none⟩)]] w4 fun e w'=> e= .returned (.tuple #[.agg #[.bool bl,.int .i64 bp,.int .i64 bs,.int .i64 bkk,.int .i64 bn],.bool true])/\Below w4.heap.size w4 w'):=c3w
  go_upto_region 10 with (first | (go_at_call 159;(with_reducible refine c3w.out.mono ?_);rintro r w5 ⟨rfl,hb5⟩) | fail)
  have hb6:=hb5.trans ((Below.refl w4.heap.size w5).alloc hb5.size (.cells #[.bool bl,.int .i64 bp,.int .i64 bs,.int .i64 bkk,.int .i64 bn] 101))
  have hB6:zaa (w5.alloc (.cells #[.bool bl,.int .i64 bp,.int .i64 bs,.int .i64 bkk,.int .i64 bn] 101)) w5.heap.size #[.bool bl,.int .i64 bp,.int .i64 bs,.int .i64 bkk,.int .i64 bn] 101:=heap_alloc_new _ _
  generalize w5.alloc (.cells #[.bool bl,.int .i64 bp,.int .i64 bs,.int .i64 bkk,.int .i64 bn] 101)=w6 at *
  obtain ⟨E,hEE,hEE'⟩:=hidv w5.heap.size
  rw [<- hEE'] at hB6 ⊢
  clear hEE'
  have hEw4:w4.heap.size<=E:=by have:=hb5.size;have:=hEE.out;omega
  have hlo:∀ b,Value.ownBlock (.slice vo3 1 vc3)=some b->b < w4.heap.size:=fun b hb=> (hown4.lt b hb).2
  have h6:=h4.below hb6
  have hs6:=hs4.below hb6
  have hJ6:=hJ4.below hb6
  have on6:=on4.tb hb6
  have hown6:=zav hown4 hb6
  clear h4 hs4 hJ4 on4 hown4 hbw4 lq4 y8 c3w c3 hb5 hb6
  have e0:=ce (.bool bl) (hB6.cell 0)
  have e1:=ci bp (hB6.cell 1)
  have e2:=ci bs (hB6.cell 2)
  have e3:=ci bkk (hB6.cell 3)
  have e4:=ci bn (hB6.cell 4)
  have lE6:=hB6.lt
  have gat:=hd' (cat.out w6)
  go_upto_region 11 with (first | (go_at_call 44;(with_reducible refine gat.out.mono ?_);rintro r w7 ⟨rfl,hb7⟩) | fail)
  have h7:=h6.below hb7
  have hs7:=hs6.below hb7
  have hJ7:=hJ6.below hb7
  have on7:=on6.tb hb7
  have hown7:=zav hown6 hb7
  have hB7:=hB6.below hb7
  clear h6 hs6 hJ6 on6 hown6 hB6 e0 e1 e2 e3 e4 lE6 gat cat hb7
  have hbw7:=on7.size
  have hd7:=h7.drew
  have Bd7:=hB7.drew
  have lq7:q < w7.drew.heap.size:=hd7.lt
  have lE7:E < w7.drew.heap.size:=Bd7.lt
  have hS:=hd' (fun (Y:World) (hr:zaa Y q #[.int .i64 sp',.int .i64 sc,.int .i64 sm,.int .i64 kc,.int .i64 kf,.int .i64 ok,.int .i64 oa,.int .i64 on,.iface 93 (.agg #[.pointer (some ⟨q1,0,.none⟩)]),.bool false,.bool true,.pointer (some ⟨sp,0,.none⟩),.int .i64 ks] 55) (hB:zaa Y E #[.bool bl,.int .i64 bp,.int .i64 bs,.int .i64 bkk,.int .i64 bn] 101)=> (⟨hr.cell 3,hB.cell 0,hB.cell 1,hB.cell 2,hB.cell 3,hB.cell 4⟩:Y.cell? ⟨q,3,.none⟩=some (.int .i64 kc)/\Y.cell? ⟨E,0,.none⟩=some (.bool bl)/\Y.cell? ⟨E,1,.none⟩=some (.int .i64 bp)/\Y.cell? ⟨E,2,.none⟩=some (.int .i64 bs)/\Y.cell? ⟨E,3,.none⟩=some (.int .i64 bkk)/\Y.cell? ⟨E,4,.none⟩=some (.int .i64 bn)))
  have gln:=hd' (fun W=> cln.out W)
  clear cln
  have hown7':w7.drew.ownsRow w.heap.size 37 8 (.slice vo3 1 vc3) 1 ((zbw kc oa).cells.toList):=zav hown7 br.drew
  go_region_held3 (fun Y=> Y.cell? ⟨q,3,.none⟩=some (.int .i64 kc)/\Y.cell? ⟨E,0,.none⟩=some (.bool bl)/\Y.cell? ⟨E,1,.none⟩=some (.int .i64 bp)/\Y.cell? ⟨E,2,.none⟩=some (.int .i64 bs)/\Y.cell? ⟨E,3,.none⟩=some (.int .i64 bkk)/\Y.cell? ⟨E,4,.none⟩=some (.int .i64 bn))
   (first | exact hS.out _ hd7 Bd7 | exact hS.out _ h8 hB8 | exact hS.out _ (h8.alloc _) (hB8.alloc _) | exact hS.out _ h9 hB9 | fail)
   (first
    | (go_at_call 45;(with_reducible refine (gln.out _).mono ?_);rintro r w8 ⟨rfl,hb8⟩;have h8:=hd7.below hb8;have hB8:=Bd7.below hb8;have hs78:w7.heap.size<=w8.heap.size:=hb8.size;have hown8:=zav hown7' hb8)
    | (refine zbg (by rfl) (.tmp 53) (.tmp 62) 32 (by rfl) w.heap.size 37 i0 _ 8 64 Tryz.underlying32 hi0 hz0 hz1 hz2 rfl (by omega) _ 1 ((zbw kc oa).cells.toList) (by rfl) (zav hown8 (br.alloc lr _)) _ 1 (zb5 kc bat bln).cells.toList (by rfl) (evRd (zb5 kc bat bln) _) (zfo _) (by simp only [maxLen];omega) (by omega) (by simp;omega) ?_;intro v9 w9 hown9 hgrow9 hat9;have hb9:=zaw ((Below.refl w.heap.size w8).alloc (by omega) (.cells (zb5 kc bat bln).cells 37)) (zav hown8 (br.alloc lr _)) (by simp;omega) hgrow9;have h9:=h8.belB hb9 lq0;have hB9:zaa w9 E #[.bool bl,.int .i64 bp,.int .i64 bs,.int .i64 bkk,.int .i64 bn] 101:=(hgrow9.block E (by have:=hB8.lt;simp;omega) (fun e=> by have:=hlo E e.symm;omega)).trans (hB8.alloc _))
    | fail)
  have bd8:Below w7.heap.size w7 w8:=zab br.drew hb8
  have hs9:=(zdy hb9).stk (hs7.below bd8) (fun b hb e=> by have:=lst b hb;omega)
  have hJ9:=(hJ7.below bd8).only (zdy hb9) (fun b hb e=> by have:=hGl b hb;omega)
  have on9:=zfp (on7.tb bd8) hb9
  clear h7 hs7 hJ7 on7 hown7 hown7' hB7 hd7 Bd7 lq7 lE7 hS gln h8 hB8 hs78 hown8 hgrow9 hat9 hb9 bd8 hB9 hb8 hbw7 hlo hEw4
  have hbw6:=on9.size
  have lq6:q < w9.heap.size:=h9.lt
  have y8:=ce (.iface 93 (.agg #[.pointer (some ⟨q1,0,.none⟩)])) (h9.cell 8)
  have c4w:=hd' (c4.out w9 hJ9)
  have cans:=hd' (fun Y (hY:Below w9.heap.size w9 Y)=> zbn (s:=⟨sp',sc,sm⟩) (k:=⟨kc,kf,⟨ok,oa,on⟩,kj,true,ks⟩) (i:=false) (jv:= .iface 93 (.agg #[.pointer (some ⟨q1,0,.none⟩)])) er bat (h9.below hY) (hs9.below hY) hqs)
  dsimp only [zat,Ev.val,Ev.cells,zaf] at cans
  have hFar:∀ b,w.heap.size<=b->¬ (b=q\/foot sp sl b):=fun b hb e=> by rcases e with rfl | e;omega;have:=lst b e;omega
  go_wp2_with (first
   | (go_at_call 157;(with_reducible refine c4w.out.mono ?_);rintro r w7 ⟨rfl,hb7⟩)
   | (go_at_call 20;(with_reducible refine (cans.out _ hb7).mono ?_);rintro r w8 ⟨rfl,h8,hs8,on8⟩;have hown8:=zkk (zav hown9 hb7) on8 hFar;have hbw8:w.heap.size<=w8.heap.size:=(Nat.le_trans hbw6 (Nat.le_trans hb7.size on8.size)))
   | (refine zay rfl (.tmp 64) (.tmp 73) 32 rfl w.heap.size 37 i0 _ 8 64 Tryz.underlying32 hi0 hz0 hz1 hz2 rfl (by omega) _ (1 + 1) ((zbw kc oa).cells.toList ++ (zb5 kc bat bln).cells.toList) rfl (zav hown8 (br.alloc lr _)) _ 1 (zaf kc ⟨ok,oa,on⟩ bat er).cells.toList rfl (evRd (zaf kc ⟨ok,oa,on⟩ bat er) _) (zfo _) (by simp only [maxLen];omega) (by omega) (by simp;omega) ?_;intro v9 w9 hown9 hgrow9 hat9;have hb9:=zaw ((Below.refl w.heap.size w8).alloc hbw8 (.cells (zaf kc ⟨ok,oa,on⟩ bat er).cells 37)) (zav hown8 (br.alloc lr _)) (by simp;omega) hgrow9)
   | fail)
  go_returns
  have on7:=(on9.tb hb7).trans on8 (fun _ _ e=> e)
  exact ⟨⟨_,rfl,hown9⟩,h8.belB hb9 lq0,(zdy hb9).stk hs8 (fun b hb e=> by rcases hb with rfl | hb;have:=lst b (.inl rfl);omega;cases hb),zfp on7 hb9⟩
theorem zun {q sp q1:Nat} {G:Nat->Prop} {s:Sh} {k:Kl} {sl:Value} {most:Int} {fs:List Fr} (t:Rr) {w:World} (h:zaa w q (zat s k false (.iface 93 (.agg #[.pointer (some ⟨q1,0,.none⟩)])) (.pointer (some ⟨sp,0,.none⟩))) 55) (hs:SK 0 w sp sl most fs) (hqs:¬ foot sp sl q) (hJ:RrO G w q1 s t) (hG:∀ b,G b->b≠q/\¬ foot sp sl b) (hGl:∀ b,G b->b < w.heap.size) (hg:(Jb.aga t).gave=false) (hd:t.done=true) (bk:Blk) (hk:(Jb.aga t).took=some bk) (hk1:0<=bk.page/\bk.page<=64) (hk2:bk.large=false->0<=bk.slot/\bk.slot<=16) (hk3:0<=bk.pages/\bk.pages<=64) (hfin:t.done=true->t.err=0->∃ r,t.res=some r):
  Calls Tryz.prog 25 #[.pointer (some ⟨q,0,.none⟩)] w fun r w'=> zbp q sp s { k with told:=k.told } true (.iface 93 (.agg #[.pointer (some ⟨q1,0,.none⟩)])) sl most fs [zb5 k.c bk.at' bk.len,zaf k.c k.op (bk.at') ((Jb.aga t).err)] w w' r:=by
 obtain ⟨i0,hi0,hz0,hz1,hz2⟩:=info_parts zdb
 have c1:=hd' (fun Y (hJ:RrO G Y q1 s t)=> zd8 hJ)
 have c2:=hd' (fun Y (hJ:RrO G Y q1 s t)=> zd5 hJ)
 have c3:=hd' (fun Y (hJ:RrO G Y q1 s t)=> zgc hfin hJ)
 have c4:=hd' (fun Y (hJ:RrO G Y q1 s t)=> zii hJ)
 rw [hg] at c1
 rw [hd] at c2
 rw [hk] at c3
 obtain ⟨sp',sc,sm⟩:=s
 obtain ⟨kc,kf,⟨ok,oa,on⟩,kj,kt,ks⟩:=k
 generalize (Jb.aga t).err=er at *
 dsimp only [zat] at h hJ c1 c2 c3 c4 ⊢
 have cat:=hd' (fun W=> zjy bk W hk1 hk2)
 have cln:=hd' (fun W=> zih bk W hk3)
 clear hk hk1 hk2 hk3
 generalize bk.at'=bat at *
 generalize bk.len=bln at *
 obtain ⟨bl,bp,bs,bkk,bn⟩:=bk
 dsimp only at c3 cat cln
 clear hg
 clear hd hfin
 have lq0:q < w.heap.size:=h.lt
 have lst:∀ b,foot sp sl b->b < w.heap.size:=fun b hb=> by rcases hb with rfl | hb;exact hs.lt;exact (hs.zem b hb).2
 have lq:q < w.heap.size:=lq0
 have x8:=ce (.iface 93 (.agg #[.pointer (some ⟨q1,0,.none⟩)])) (h.cell 8)
 have x10:=ce (.bool kt) (h.cell 10)
 have c1w:=hd' (c1.out w hJ)
 go_enter Tryz.func25,Tryz.ntmps25
 go_upto_region 5 with (first | (go_at_call 158;(with_reducible refine c1w.out.mono ?_);rintro r w1 ⟨rfl,hb1⟩;have z8:=zai hb1 _ _ _ x8;have z10:=zai hb1 _ _ _ x10) | fail)
 have h3:=h.below hb1
 have hs3:=hs.below hb1
 have hJ3:=hJ.below hb1
 have on3:Only (fun b=> b=q\/foot sp sl b) w w1:=Only.of_below hb1
 have hbw3:=on3.size
 have hown3:=zel w.heap.size w1
 clear h hs hJ x8 x10 lq c1 c1w hb1 z8 z10
 have lq3:q < w1.heap.size:=h3.lt
 have y8:=ce (.iface 93 (.agg #[.pointer (some ⟨q1,0,.none⟩)])) (h3.cell 8)
 have c2w:=hd' (c2.out w1 hJ3)
 go_upto_region 8 with (first | (go_at_call 154;(with_reducible refine c2w.out.mono ?_);rintro r w4 ⟨rfl,hb4⟩;have y9:=zai hb4 _ _ _ y8) | fail)
 have h4:=h3.below hb4
 have hs4:=hs3.below hb4
 have hJ4:=hJ3.below hb4
 have on4:=on3.tb hb4
 have hown4:=zav hown3 hb4
 clear h3 hs3 hJ3 on3 hown3 hbw3 lq3 y8 c2w y9 c2 hb4
 have hbw4:=on4.size
 have lq4:q < w4.heap.size:=h4.lt
 have y8:=ce (.iface 93 (.agg #[.pointer (some ⟨q1,0,.none⟩)])) (h4.cell 8)
 have c3w:=hd' (c3.out w4 hJ4)
 replace c3w:Hid (Calls Tryz.prog 159 #[.agg #[.pointer (some ⟨q1,0,.none⟩)]] w4 fun e w'=> e= .returned (.tuple #[.agg #[.bool bl,.int .i64 bp,.int .i64 bs,.int .i64 bkk,.int .i64 bn],.bool true])/\Below w4.heap.size w4 w'):=c3w
 go_upto_region 10 with (first | (go_at_call 159;(with_reducible refine c3w.out.mono ?_);rintro r w5 ⟨rfl,hb5⟩) | fail)
 have hb6:=hb5.trans ((Below.refl w4.heap.size w5).alloc hb5.size (.cells #[.bool bl,.int .i64 bp,.int .i64 bs,.int .i64 bkk,.int .i64 bn] 101))
 have hB6:zaa (w5.alloc (.cells #[.bool bl,.int .i64 bp,.int .i64 bs,.int .i64 bkk,.int .i64 bn] 101)) w5.heap.size #[.bool bl,.int .i64 bp,.int .i64 bs,.int .i64 bkk,.int .i64 bn] 101:=heap_alloc_new _ _
 generalize w5.alloc (.cells #[.bool bl,.int .i64 bp,.int .i64 bs,.int .i64 bkk,.int .i64 bn] 101)=w6 at *
 obtain ⟨E,hEE,hEE'⟩:=hidv w5.heap.size
 rw [<- hEE'] at hB6 ⊢
 clear hEE'
 have hEw4:w4.heap.size<=E:=by have:=hb5.size;have:=hEE.out;omega
 have hlo:∀ b,Value.ownBlock (.slice none 0 0)=some b->b < w4.heap.size:=fun b hb=> (hown4.lt b hb).2
 have h6:=h4.below hb6
 have hs6:=hs4.below hb6
 have hJ6:=hJ4.below hb6
 have on6:=on4.tb hb6
 have hown6:=zav hown4 hb6
 clear h4 hs4 hJ4 on4 hown4 hbw4 lq4 y8 c3w c3 hb5 hb6
 have e0:=ce (.bool bl) (hB6.cell 0)
 have e1:=ci bp (hB6.cell 1)
 have e2:=ci bs (hB6.cell 2)
 have e3:=ci bkk (hB6.cell 3)
 have e4:=ci bn (hB6.cell 4)
 have lE6:=hB6.lt
 have gat:=hd' (cat.out w6)
 go_upto_region 11 with (first | (go_at_call 44;(with_reducible refine gat.out.mono ?_);rintro r w7 ⟨rfl,hb7⟩) | fail)
 have h7:=h6.below hb7
 have hs7:=hs6.below hb7
 have hJ7:=hJ6.below hb7
 have on7:=on6.tb hb7
 have hown7:=zav hown6 hb7
 have hB7:=hB6.below hb7
 clear h6 hs6 hJ6 on6 hown6 hB6 e0 e1 e2 e3 e4 lE6 gat cat hb7
 have hbw7:=on7.size
 have hd7:=h7.drew
 have Bd7:=hB7.drew
 have lq7:q < w7.drew.heap.size:=hd7.lt
 have lE7:E < w7.drew.heap.size:=Bd7.lt
 have hS:=hd' (fun (Y:World) (hr:zaa Y q #[.int .i64 sp',.int .i64 sc,.int .i64 sm,.int .i64 kc,.int .i64 kf,.int .i64 ok,.int .i64 oa,.int .i64 on,.iface 93 (.agg #[.pointer (some ⟨q1,0,.none⟩)]),.bool false,.bool kt,.pointer (some ⟨sp,0,.none⟩),.int .i64 ks] 55) (hB:zaa Y E #[.bool bl,.int .i64 bp,.int .i64 bs,.int .i64 bkk,.int .i64 bn] 101)=> (⟨hr.cell 3,hB.cell 0,hB.cell 1,hB.cell 2,hB.cell 3,hB.cell 4⟩:Y.cell? ⟨q,3,.none⟩=some (.int .i64 kc)/\Y.cell? ⟨E,0,.none⟩=some (.bool bl)/\Y.cell? ⟨E,1,.none⟩=some (.int .i64 bp)/\Y.cell? ⟨E,2,.none⟩=some (.int .i64 bs)/\Y.cell? ⟨E,3,.none⟩=some (.int .i64 bkk)/\Y.cell? ⟨E,4,.none⟩=some (.int .i64 bn)))
 have gln:=hd' (fun W=> cln.out W)
 clear cln
 have hown7':w7.drew.ownsRow w.heap.size 37 8 (.slice none 0 0) 0 ([]):=zav hown7 br.drew
 go_region_held3 (fun Y=> Y.cell? ⟨q,3,.none⟩=some (.int .i64 kc)/\Y.cell? ⟨E,0,.none⟩=some (.bool bl)/\Y.cell? ⟨E,1,.none⟩=some (.int .i64 bp)/\Y.cell? ⟨E,2,.none⟩=some (.int .i64 bs)/\Y.cell? ⟨E,3,.none⟩=some (.int .i64 bkk)/\Y.cell? ⟨E,4,.none⟩=some (.int .i64 bn))
  (first | exact hS.out _ hd7 Bd7 | exact hS.out _ h8 hB8 | exact hS.out _ (h8.alloc _) (hB8.alloc _) | exact hS.out _ h9 hB9 | fail)
  (first
   | (go_at_call 45;(with_reducible refine (gln.out _).mono ?_);rintro r w8 ⟨rfl,hb8⟩;have h8:=hd7.below hb8;have hB8:=Bd7.below hb8;have hs78:w7.heap.size<=w8.heap.size:=hb8.size;have hown8:=zav hown7' hb8)
   | (refine zbg (by rfl) (.tmp 53) (.tmp 62) 32 (by rfl) w.heap.size 37 i0 _ 8 64 Tryz.underlying32 hi0 hz0 hz1 hz2 rfl (by omega) _ 0 ([]) (by rfl) (zav hown8 (br.alloc lr _)) _ 1 (zb5 kc bat bln).cells.toList (by rfl) (evRd (zb5 kc bat bln) _) (zfo _) (by simp only [maxLen];omega) (by omega) (by simp;omega) ?_;intro v9 w9 hown9 hgrow9 hat9;have hb9:=zaw ((Below.refl w.heap.size w8).alloc (by omega) (.cells (zb5 kc bat bln).cells 37)) (zav hown8 (br.alloc lr _)) (by simp;omega) hgrow9;have h9:=h8.belB hb9 lq0;have hB9:zaa w9 E #[.bool bl,.int .i64 bp,.int .i64 bs,.int .i64 bkk,.int .i64 bn] 101:=(hgrow9.block E (by have:=hB8.lt;simp;omega) (fun e=> by have:=hlo E e.symm;omega)).trans (hB8.alloc _))
   | fail)
 have bd8:Below w7.heap.size w7 w8:=zab br.drew hb8
 have hs9:=(zdy hb9).stk (hs7.below bd8) (fun b hb e=> by have:=lst b hb;omega)
 have hJ9:=(hJ7.below bd8).only (zdy hb9) (fun b hb e=> by have:=hGl b hb;omega)
 have on9:=zfp (on7.tb bd8) hb9
 rw [Nat.zero_add,List.nil_append] at hown9
 clear h7 hs7 hJ7 on7 hown7 hown7' hB7 hd7 Bd7 lq7 lE7 hS gln h8 hB8 hs78 hown8 hgrow9 hat9 hb9 bd8 hB9 hb8 hbw7 hlo hEw4
 have hbw6:=on9.size
 have lq6:q < w9.heap.size:=h9.lt
 have y8:=ce (.iface 93 (.agg #[.pointer (some ⟨q1,0,.none⟩)])) (h9.cell 8)
 have c4w:=hd' (c4.out w9 hJ9)
 have cans:=hd' (fun Y (hY:Below w9.heap.size w9 Y)=> zbn (s:=⟨sp',sc,sm⟩) (k:=⟨kc,kf,⟨ok,oa,on⟩,kj,kt,ks⟩) (i:=false) (jv:= .iface 93 (.agg #[.pointer (some ⟨q1,0,.none⟩)])) er bat (h9.below hY) (hs9.below hY) hqs)
 dsimp only [zat,Ev.val,Ev.cells,zaf] at cans
 have hFar:∀ b,w.heap.size<=b->¬ (b=q\/foot sp sl b):=fun b hb e=> by rcases e with rfl | e;omega;have:=lst b e;omega
 go_wp2_with (first
  | (go_at_call 157;(with_reducible refine c4w.out.mono ?_);rintro r w7 ⟨rfl,hb7⟩)
  | (go_at_call 20;(with_reducible refine (cans.out _ hb7).mono ?_);rintro r w8 ⟨rfl,h8,hs8,on8⟩;have hown8:=zkk (zav hown9 hb7) on8 hFar;have hbw8:w.heap.size<=w8.heap.size:=(Nat.le_trans hbw6 (Nat.le_trans hb7.size on8.size)))
  | (refine zay rfl (.tmp 64) (.tmp 73) 32 rfl w.heap.size 37 i0 _ 8 64 Tryz.underlying32 hi0 hz0 hz1 hz2 rfl (by omega) _ 1 ((zb5 kc bat bln).cells.toList) rfl (zav hown8 (br.alloc lr _)) _ 1 (zaf kc ⟨ok,oa,on⟩ bat er).cells.toList rfl (evRd (zaf kc ⟨ok,oa,on⟩ bat er) _) (zfo _) (by simp only [maxLen];omega) (by omega) (by simp;omega) ?_;intro v9 w9 hown9 hgrow9 hat9;have hb9:=zaw ((Below.refl w.heap.size w8).alloc hbw8 (.cells (zaf kc ⟨ok,oa,on⟩ bat er).cells 37)) (zav hown8 (br.alloc lr _)) (by simp;omega) hgrow9)
  | fail)
 go_returns
 have on7:=(on9.tb hb7).trans on8 (fun _ _ e=> e)
 exact ⟨⟨_,rfl,hown9⟩,h8.belB hb9 lq0,(zdy hb9).stk hs8 (fun b hb e=> by rcases hb with rfl | hb;have:=lst b (.inl rfl);omega;cases hb),zfp on7 hb9⟩
theorem zu8 {q sp q1:Nat} {G:Nat->Prop} {s:Sh} {k:Kl} {sl:Value} {most:Int} {fs:List Fr} (t:Rr) {w:World} (h:zaa w q (zat s k false (.iface 93 (.agg #[.pointer (some ⟨q1,0,.none⟩)])) (.pointer (some ⟨sp,0,.none⟩))) 55) (hs:SK 0 w sp sl most fs) (hqs:¬ foot sp sl q) (hJ:RrO G w q1 s t) (hG:∀ b,G b->b≠q/\¬ foot sp sl b) (hGl:∀ b,G b->b < w.heap.size) (hg:(Jb.aga t).gave=true) (ht:k.told=true) (hd:t.done=true) (bk:Blk) (hk:(Jb.aga t).took=some bk) (hk1:0<=bk.page/\bk.page<=64) (hk2:bk.large=false->0<=bk.slot/\bk.slot<=16) (hk3:0<=bk.pages/\bk.pages<=64) (hfin:t.done=true->t.err=0->∃ r,t.res=some r):
  Calls Tryz.prog 25 #[.pointer (some ⟨q,0,.none⟩)] w fun r w'=> zbp q sp s { k with told:=k.told } true (.iface 93 (.agg #[.pointer (some ⟨q1,0,.none⟩)])) sl most fs [zb5 k.c bk.at' bk.len,zaf k.c k.op (bk.at') ((Jb.aga t).err)] w w' r:=by
 obtain ⟨i0,hi0,hz0,hz1,hz2⟩:=info_parts zdb
 have c1:=hd' (fun Y (hJ:RrO G Y q1 s t)=> zd8 hJ)
 have c2:=hd' (fun Y (hJ:RrO G Y q1 s t)=> zd5 hJ)
 have c3:=hd' (fun Y (hJ:RrO G Y q1 s t)=> zgc hfin hJ)
 have c4:=hd' (fun Y (hJ:RrO G Y q1 s t)=> zii hJ)
 rw [hg] at c1
 rw [hd] at c2
 rw [hk] at c3
 obtain ⟨sp',sc,sm⟩:=s
 obtain ⟨kc,kf,⟨ok,oa,on⟩,kj,kt,ks⟩:=k
 dsimp only at ht
 subst ht
 generalize (Jb.aga t).err=er at *
 dsimp only [zat] at h hJ c1 c2 c3 c4 ⊢
 have cat:=hd' (fun W=> zjy bk W hk1 hk2)
 have cln:=hd' (fun W=> zih bk W hk3)
 clear hk hk1 hk2 hk3
 generalize bk.at'=bat at *
 generalize bk.len=bln at *
 obtain ⟨bl,bp,bs,bkk,bn⟩:=bk
 dsimp only at c3 cat cln
 clear hg
 clear hd hfin
 have lq0:q < w.heap.size:=h.lt
 have lst:∀ b,foot sp sl b->b < w.heap.size:=fun b hb=> by rcases hb with rfl | hb;exact hs.lt;exact (hs.zem b hb).2
 have lq:q < w.heap.size:=lq0
 have x8:=ce (.iface 93 (.agg #[.pointer (some ⟨q1,0,.none⟩)])) (h.cell 8)
 have x10:=ce (.bool true) (h.cell 10)
 have c1w:=hd' (c1.out w hJ)
 go_enter Tryz.func25,Tryz.ntmps25
 go_upto_region 5 with (first | (go_at_call 158;(with_reducible refine c1w.out.mono ?_);rintro r w1 ⟨rfl,hb1⟩;have z8:=zai hb1 _ _ _ x8;have z10:=zai hb1 _ _ _ x10) | fail)
 have h3:=h.below hb1
 have hs3:=hs.below hb1
 have hJ3:=hJ.below hb1
 have on3:Only (fun b=> b=q\/foot sp sl b) w w1:=Only.of_below hb1
 have hbw3:=on3.size
 have hown3:=zel w.heap.size w1
 clear h hs hJ x8 x10 lq c1 c1w hb1 z8 z10
 have lq3:q < w1.heap.size:=h3.lt
 have y8:=ce (.iface 93 (.agg #[.pointer (some ⟨q1,0,.none⟩)])) (h3.cell 8)
 have c2w:=hd' (c2.out w1 hJ3)
 go_upto_region 8 with (first | (go_at_call 154;(with_reducible refine c2w.out.mono ?_);rintro r w4 ⟨rfl,hb4⟩;have y9:=zai hb4 _ _ _ y8) | fail)
 have h4:=h3.below hb4
 have hs4:=hs3.below hb4
 have hJ4:=hJ3.below hb4
 have on4:=on3.tb hb4
 have hown4:=zav hown3 hb4
 clear h3 hs3 hJ3 on3 hown3 hbw3 lq3 y8 c2w y9 c2 hb4
 have hbw4:=on4.size
 have lq4:q < w4.heap.size:=h4.lt
 have y8:=ce (.iface 93 (.agg #[.pointer (some ⟨q1,0,.none⟩)])) (h4.cell 8)
 have c3w:=hd' (c3.out w4 hJ4)
 replace c3w:Hid (Calls Tryz.prog 159 #[.agg #[.pointer (some ⟨q1,0,.none⟩)]] w4 fun e w'=> e= .returned (.tuple #[.agg #[.bool bl,.int .i64 bp,.int .i64 bs,.int .i64 bkk,.int .i64 bn],.bool true])/\Below w4.heap.size w4 w'):=c3w
 go_upto_region 10 with (first | (go_at_call 159;(with_reducible refine c3w.out.mono ?_);rintro r w5 ⟨rfl,hb5⟩) | fail)
 have hb6:=hb5.trans ((Below.refl w4.heap.size w5).alloc hb5.size (.cells #[.bool bl,.int .i64 bp,.int .i64 bs,.int .i64 bkk,.int .i64 bn] 101))
 have hB6:zaa (w5.alloc (.cells #[.bool bl,.int .i64 bp,.int .i64 bs,.int .i64 bkk,.int .i64 bn] 101)) w5.heap.size #[.bool bl,.int .i64 bp,.int .i64 bs,.int .i64 bkk,.int .i64 bn] 101:=heap_alloc_new _ _
 generalize w5.alloc (.cells #[.bool bl,.int .i64 bp,.int .i64 bs,.int .i64 bkk,.int .i64 bn] 101)=w6 at *
 obtain ⟨E,hEE,hEE'⟩:=hidv w5.heap.size
 rw [<- hEE'] at hB6 ⊢
 clear hEE'
 have hEw4:w4.heap.size<=E:=by have:=hb5.size;have:=hEE.out;omega
 have hlo:∀ b,Value.ownBlock (.slice none 0 0)=some b->b < w4.heap.size:=fun b hb=> (hown4.lt b hb).2
 have h6:=h4.below hb6
 have hs6:=hs4.below hb6
 have hJ6:=hJ4.below hb6
 have on6:=on4.tb hb6
 have hown6:=zav hown4 hb6
 clear h4 hs4 hJ4 on4 hown4 hbw4 lq4 y8 c3w c3 hb5 hb6
 have e0:=ce (.bool bl) (hB6.cell 0)
 have e1:=ci bp (hB6.cell 1)
 have e2:=ci bs (hB6.cell 2)
 have e3:=ci bkk (hB6.cell 3)
 have e4:=ci bn (hB6.cell 4)
 have lE6:=hB6.lt
 have gat:=hd' (cat.out w6)
 go_upto_region 11 with (first | (go_at_call 44;(with_reducible refine gat.out.mono ?_);rintro r w7 ⟨rfl,hb7⟩) | fail)
 have h7:=h6.below hb7
 have hs7:=hs6.below hb7
 have hJ7:=hJ6.below hb7
 have on7:=on6.tb hb7
 have hown7:=zav hown6 hb7
 have hB7:=hB6.below hb7
 clear h6 hs6 hJ6 on6 hown6 hB6 e0 e1 e2 e3 e4 lE6 gat cat hb7
 have hbw7:=on7.size
 have hd7:=h7.drew
 have Bd7:=hB7.drew
 have lq7:q < w7.drew.heap.size:=hd7.lt
 have lE7:E < w7.drew.heap.size:=Bd7.lt
 have hS:=hd' (fun (Y:World) (hr:zaa Y q #[.int .i64 sp',.int .i64 sc,.int .i64 sm,.int .i64 kc,.int .i64 kf,.int .i64 ok,.int .i64 oa,.int .i64 on,.iface 93 (.agg #[.pointer (some ⟨q1,0,.none⟩)]),.bool false,.bool true,.pointer (some ⟨sp,0,.none⟩),.int .i64 ks] 55) (hB:zaa Y E #[.bool bl,.int .i64 bp,.int .i64 bs,.int .i64 bkk,.int .i64 bn] 101)=> (⟨hr.cell 3,hB.cell 0,hB.cell 1,hB.cell 2,hB.cell 3,hB.cell 4⟩:Y.cell? ⟨q,3,.none⟩=some (.int .i64 kc)/\Y.cell? ⟨E,0,.none⟩=some (.bool bl)/\Y.cell? ⟨E,1,.none⟩=some (.int .i64 bp)/\Y.cell? ⟨E,2,.none⟩=some (.int .i64 bs)/\Y.cell? ⟨E,3,.none⟩=some (.int .i64 bkk)/\Y.cell? ⟨E,4,.none⟩=some (.int .i64 bn)))
 have gln:=hd' (fun W=> cln.out W)
 clear cln
 have hown7':w7.drew.ownsRow w.heap.size 37 8 (.slice none 0 0) 0 ([]):=zav hown7 br.drew
 go_region_held3 (fun Y=> Y.cell? ⟨q,3,.none⟩=some (.int .i64 kc)/\Y.cell? ⟨E,0,.none⟩=some (.bool bl)/\Y.cell? ⟨E,1,.none⟩=some (.int .i64 bp)/\Y.cell? ⟨E,2,.none⟩=some (.int .i64 bs)/\Y.cell? ⟨E,3,.none⟩=some (.int .i64 bkk)/\Y.cell? ⟨E,4,.none⟩=some (.int .i64 bn))
  (first | exact hS.out _ hd7 Bd7 | exact hS.out _ h8 hB8 | exact hS.out _ (h8.alloc _) (hB8.alloc _) | exact hS.out _ h9 hB9 | fail)
  (first
   | (go_at_call 45;(with_reducible refine (gln.out _).mono ?_);rintro r w8 ⟨rfl,hb8⟩;have h8:=hd7.below hb8;have hB8:=Bd7.below hb8;have hs78:w7.heap.size<=w8.heap.size:=hb8.size;have hown8:=zav hown7' hb8)
   | (refine zbg (by rfl) (.tmp 53) (.tmp 62) 32 (by rfl) w.heap.size 37 i0 _ 8 64 Tryz.underlying32 hi0 hz0 hz1 hz2 rfl (by omega) _ 0 ([]) (by rfl) (zav hown8 (br.alloc lr _)) _ 1 (zb5 kc bat bln).cells.toList (by rfl) (evRd (zb5 kc bat bln) _) (zfo _) (by simp only [maxLen];omega) (by omega) (by simp;omega) ?_;intro v9 w9 hown9 hgrow9 hat9;have hb9:=zaw ((Below.refl w.heap.size w8).alloc (by omega) (.cells (zb5 kc bat bln).cells 37)) (zav hown8 (br.alloc lr _)) (by simp;omega) hgrow9;have h9:=h8.belB hb9 lq0;have hB9:zaa w9 E #[.bool bl,.int .i64 bp,.int .i64 bs,.int .i64 bkk,.int .i64 bn] 101:=(hgrow9.block E (by have:=hB8.lt;simp;omega) (fun e=> by have:=hlo E e.symm;omega)).trans (hB8.alloc _))
   | fail)
 have bd8:Below w7.heap.size w7 w8:=zab br.drew hb8
 have hs9:=(zdy hb9).stk (hs7.below bd8) (fun b hb e=> by have:=lst b hb;omega)
 have hJ9:=(hJ7.below bd8).only (zdy hb9) (fun b hb e=> by have:=hGl b hb;omega)
 have on9:=zfp (on7.tb bd8) hb9
 rw [Nat.zero_add,List.nil_append] at hown9
 clear h7 hs7 hJ7 on7 hown7 hown7' hB7 hd7 Bd7 lq7 lE7 hS gln h8 hB8 hs78 hown8 hgrow9 hat9 hb9 bd8 hB9 hb8 hbw7 hlo hEw4
 have hbw6:=on9.size
 have lq6:q < w9.heap.size:=h9.lt
 have y8:=ce (.iface 93 (.agg #[.pointer (some ⟨q1,0,.none⟩)])) (h9.cell 8)
 have c4w:=hd' (c4.out w9 hJ9)
 have cans:=hd' (fun Y (hY:Below w9.heap.size w9 Y)=> zbn (s:=⟨sp',sc,sm⟩) (k:=⟨kc,kf,⟨ok,oa,on⟩,kj,true,ks⟩) (i:=false) (jv:= .iface 93 (.agg #[.pointer (some ⟨q1,0,.none⟩)])) er bat (h9.below hY) (hs9.below hY) hqs)
 dsimp only [zat,Ev.val,Ev.cells,zaf] at cans
 have hFar:∀ b,w.heap.size<=b->¬ (b=q\/foot sp sl b):=fun b hb e=> by rcases e with rfl | e;omega;have:=lst b e;omega
 go_wp2_with (first
  | (go_at_call 157;(with_reducible refine c4w.out.mono ?_);rintro r w7 ⟨rfl,hb7⟩)
  | (go_at_call 20;(with_reducible refine (cans.out _ hb7).mono ?_);rintro r w8 ⟨rfl,h8,hs8,on8⟩;have hown8:=zkk (zav hown9 hb7) on8 hFar;have hbw8:w.heap.size<=w8.heap.size:=(Nat.le_trans hbw6 (Nat.le_trans hb7.size on8.size)))
  | (refine zay rfl (.tmp 64) (.tmp 73) 32 rfl w.heap.size 37 i0 _ 8 64 Tryz.underlying32 hi0 hz0 hz1 hz2 rfl (by omega) _ 1 ((zb5 kc bat bln).cells.toList) rfl (zav hown8 (br.alloc lr _)) _ 1 (zaf kc ⟨ok,oa,on⟩ bat er).cells.toList rfl (evRd (zaf kc ⟨ok,oa,on⟩ bat er) _) (zfo _) (by simp only [maxLen];omega) (by omega) (by simp;omega) ?_;intro v9 w9 hown9 hgrow9 hat9;have hb9:=zaw ((Below.refl w.heap.size w8).alloc hbw8 (.cells (zaf kc ⟨ok,oa,on⟩ bat er).cells 37)) (zav hown8 (br.alloc lr _)) (by simp;omega) hgrow9)
  | fail)
 go_returns
 have on7:=(on9.tb hb7).trans on8 (fun _ _ e=> e)
 exact ⟨⟨_,rfl,hown9⟩,h8.belB hb9 lq0,(zdy hb9).stk hs8 (fun b hb e=> by rcases hb with rfl | hb;have:=lst b (.inl rfl);omega;cases hb),zfp on7 hb9⟩
end Go.Proofs.YthgekdlegbmehaaGreat

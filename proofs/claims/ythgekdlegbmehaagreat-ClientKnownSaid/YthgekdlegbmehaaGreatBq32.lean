/- What a client tells behind an access: its walk, where the job is of one kind (printed by wip/tell.py). -/
import Derived.Test.YthgekdlegbmehaaGreatBq28

set_option linter.all false
set_option maxHeartbeats 4000000
set_option maxRecDepth 100000
namespace Go.Proofs.YthgekdlegbmehaaGreat

open Go.RowKit

attribute [local go_sem ↓] Go.wp_at_zero Go.wp_at_succ

theorem zuk {q sp q1:Nat} {G:Nat->Prop} {s:Sh} {k:Kl} {sl:Value} {most:Int} {fs:List Fr} (a:Ad) {w:World} (h:zaa w q (zat s k false (.iface 97 (.agg #[.pointer (some ⟨q1,0,.none⟩)])) (.pointer (some ⟨sp,0,.none⟩))) 55) (hs:SK 0 w sp sl most fs) (hqs:¬ foot sp sl q) (hJ:AdO G w q1 s a) (hG:∀ b,G b->b≠q/\¬ foot sp sl b) (hGl:∀ b,G b->b < w.heap.size)  (hd:a.done=false):
  Calls Tryz.prog 25 #[.pointer (some ⟨q,0,.none⟩)] w fun r w'=> zbp q sp s { k with told:=k.told } false (.iface 97 (.agg #[.pointer (some ⟨q1,0,.none⟩)])) sl most fs [] w w' r:=by
 obtain ⟨i0,hi0,hz0,hz1,hz2⟩:=info_parts zdb
 have c1:=hd' (fun Y (hJ:AdO G Y q1 s a)=> zqz hJ)
 have c2:=hd' (fun Y (hJ:AdO G Y q1 s a)=> zti hJ)
 rw [hd] at c2
 obtain ⟨sp',sc,sm⟩:=s
 obtain ⟨kc,kf,⟨ok,oa,on⟩,kj,kt,ks⟩:=k
 dsimp only [zat] at h hJ c1 c2 ⊢
 clear hd
 have lq0:q < w.heap.size:=h.lt
 have lst:∀ b,foot sp sl b->b < w.heap.size:=fun b hb=> by rcases hb with rfl | hb;exact hs.lt;exact (hs.zem b hb).2
 have lq:q < w.heap.size:=lq0
 have x8:=ce (.iface 97 (.agg #[.pointer (some ⟨q1,0,.none⟩)])) (h.cell 8)
 have x10:=ce (.bool kt) (h.cell 10)
 have c1w:=hd' (c1.out w hJ)
 go_enter Tryz.func25,Tryz.ntmps25
 go_upto_region 5 with (first | (go_at_call 176;(with_reducible refine c1w.out.mono ?_);rintro r w1 ⟨rfl,hb1⟩;have z8:=zai hb1 _ _ _ x8;have z10:=zai hb1 _ _ _ x10) | fail)
 have h3:=h.below hb1
 have hs3:=hs.below hb1
 have hJ3:=hJ.below hb1
 have on3:Only (fun b=> b=q\/foot sp sl b) w w1:=Only.of_below hb1
 have hbw3:=on3.size
 have hown3:=zel w.heap.size w1
 clear h hs hJ x8 x10 lq c1 c1w hb1 z8 z10
 have lq3:q < w1.heap.size:=h3.lt
 have y8:=ce (.iface 97 (.agg #[.pointer (some ⟨q1,0,.none⟩)])) (h3.cell 8)
 have c2w:=hd' (c2.out w1 hJ3)
 go_wp2_with (first | (go_at_call 163;(with_reducible refine c2w.out.mono ?_);rintro r w4 ⟨rfl,hb4⟩;have y9:=zai hb4 _ _ _ y8) | fail)
 go_returns
 refine ⟨⟨_,rfl,?_⟩,h3.below hb4,hs3.below hb4,on3.tb hb4⟩
 exact zav hown3 hb4
theorem zuu {q sp q1:Nat} {G:Nat->Prop} {s:Sh} {k:Kl} {sl:Value} {most:Int} {fs:List Fr} (a:Ad) {w:World} (h:zaa w q (zat s k false (.iface 97 (.agg #[.pointer (some ⟨q1,0,.none⟩)])) (.pointer (some ⟨sp,0,.none⟩))) 55) (hs:SK 0 w sp sl most fs) (hqs:¬ foot sp sl q) (hJ:AdO G w q1 s a) (hG:∀ b,G b->b≠q/\¬ foot sp sl b) (hGl:∀ b,G b->b < w.heap.size)  (hd:a.done=true):
  Calls Tryz.prog 25 #[.pointer (some ⟨q,0,.none⟩)] w fun r w'=> zbp q sp s { k with told:=k.told } true (.iface 97 (.agg #[.pointer (some ⟨q1,0,.none⟩)])) sl most fs [zaf k.c k.op 0 (a.err)] w w' r:=by
 obtain ⟨i0,hi0,hz0,hz1,hz2⟩:=info_parts zdb
 have c1:=hd' (fun Y (hJ:AdO G Y q1 s a)=> zqz hJ)
 have c2:=hd' (fun Y (hJ:AdO G Y q1 s a)=> zti hJ)
 have c3:=hd' (fun Y (hJ:AdO G Y q1 s a)=> z0p hJ)
 have c4:=hd' (fun Y (hJ:AdO G Y q1 s a)=> z8a hJ)
 rw [hd] at c2
 obtain ⟨sp',sc,sm⟩:=s
 obtain ⟨kc,kf,⟨ok,oa,on⟩,kj,kt,ks⟩:=k
 generalize a.err=er at *
 dsimp only [zat] at h hJ c1 c2 c3 c4 ⊢
 clear hd
 have lq0:q < w.heap.size:=h.lt
 have lst:∀ b,foot sp sl b->b < w.heap.size:=fun b hb=> by rcases hb with rfl | hb;exact hs.lt;exact (hs.zem b hb).2
 have lq:q < w.heap.size:=lq0
 have x8:=ce (.iface 97 (.agg #[.pointer (some ⟨q1,0,.none⟩)])) (h.cell 8)
 have x10:=ce (.bool kt) (h.cell 10)
 have c1w:=hd' (c1.out w hJ)
 go_enter Tryz.func25,Tryz.ntmps25
 go_upto_region 5 with (first | (go_at_call 176;(with_reducible refine c1w.out.mono ?_);rintro r w1 ⟨rfl,hb1⟩;have z8:=zai hb1 _ _ _ x8;have z10:=zai hb1 _ _ _ x10) | fail)
 have h3:=h.below hb1
 have hs3:=hs.below hb1
 have hJ3:=hJ.below hb1
 have on3:Only (fun b=> b=q\/foot sp sl b) w w1:=Only.of_below hb1
 have hbw3:=on3.size
 have hown3:=zel w.heap.size w1
 clear h hs hJ x8 x10 lq c1 c1w hb1 z8 z10
 have lq3:q < w1.heap.size:=h3.lt
 have y8:=ce (.iface 97 (.agg #[.pointer (some ⟨q1,0,.none⟩)])) (h3.cell 8)
 have c2w:=hd' (c2.out w1 hJ3)
 go_upto_region 8 with (first | (go_at_call 163;(with_reducible refine c2w.out.mono ?_);rintro r w4 ⟨rfl,hb4⟩;have y9:=zai hb4 _ _ _ y8) | fail)
 have h4:=h3.below hb4
 have hs4:=hs3.below hb4
 have hJ4:=hJ3.below hb4
 have on4:=on3.tb hb4
 have hown4:=zav hown3 hb4
 clear h3 hs3 hJ3 on3 hown3 hbw3 lq3 y8 c2w y9 c2 hb4
 have hbw4:=on4.size
 have lq4:q < w4.heap.size:=h4.lt
 have y8:=ce (.iface 97 (.agg #[.pointer (some ⟨q1,0,.none⟩)])) (h4.cell 8)
 have c3w:=hd' (c3.out w4 hJ4)
 replace c3w:Hid (Calls Tryz.prog 177 #[.agg #[.pointer (some ⟨q1,0,.none⟩)]] w4 fun e w'=> e= .returned (.tuple #[.agg #[.bool false,.int .i64 0,.int .i64 0,.int .i64 0,.int .i64 0],.bool false])/\Below w4.heap.size w4 w'):=c3w
 go_upto_region 12 with (first | (go_at_call 177;(with_reducible refine c3w.out.mono ?_);rintro r w5 ⟨rfl,hb5⟩) | fail)
 have hb6:=hb5.trans ((Below.refl w4.heap.size w5).alloc hb5.size (.cells #[.bool false,.int .i64 0,.int .i64 0,.int .i64 0,.int .i64 0] 101))
 have hB6:zaa (w5.alloc (.cells #[.bool false,.int .i64 0,.int .i64 0,.int .i64 0,.int .i64 0] 101)) w5.heap.size #[.bool false,.int .i64 0,.int .i64 0,.int .i64 0,.int .i64 0] 101:=heap_alloc_new _ _
 generalize w5.alloc (.cells #[.bool false,.int .i64 0,.int .i64 0,.int .i64 0,.int .i64 0] 101)=w6 at *
 obtain ⟨E,hEE,hEE'⟩:=hidv w5.heap.size
 rw [<- hEE'] at hB6;try rw [<- hEE']
 clear hEE'
 have h6:=h4.below hb6
 have hs6:=hs4.below hb6
 have hJ6:=hJ4.below hb6
 have on6:=on4.tb hb6
 have hown6:=zav hown4 hb6
 clear h4 hs4 hJ4 on4 hown4 hbw4 lq4 y8 c3w c3 hb5 hb6
 clear hB6
 have hbw6:=on6.size
 have lq6:q < w6.heap.size:=h6.lt
 have y8:=ce (.iface 97 (.agg #[.pointer (some ⟨q1,0,.none⟩)])) (h6.cell 8)
 have c4w:=hd' (c4.out w6 hJ6)
 have cans:=hd' (fun Y (hY:Below w6.heap.size w6 Y)=> zbn (s:=⟨sp',sc,sm⟩) (k:=⟨kc,kf,⟨ok,oa,on⟩,kj,kt,ks⟩) (i:=false) (jv:= .iface 97 (.agg #[.pointer (some ⟨q1,0,.none⟩)])) er 0 (h6.below hY) (hs6.below hY) hqs)
 dsimp only [zat,Ev.val,Ev.cells,zaf] at cans
 have hFar:∀ b,w.heap.size<=b->¬ (b=q\/foot sp sl b):=fun b hb e=> by rcases e with rfl | e;omega;have:=lst b e;omega
 go_wp2_with (first
  | (go_at_call 175;(with_reducible refine c4w.out.mono ?_);rintro r w7 ⟨rfl,hb7⟩)
  | (go_at_call 20;(with_reducible refine (cans.out _ hb7).mono ?_);rintro r w8 ⟨rfl,h8,hs8,on8⟩;have hown8:=zkk (zav hown6 hb7) on8 hFar;have hbw8:w.heap.size<=w8.heap.size:=(Nat.le_trans hbw6 (Nat.le_trans hb7.size on8.size)))
  | (refine zay rfl (.tmp 64) (.tmp 73) 32 rfl w.heap.size 37 i0 _ 8 64 Tryz.underlying32 hi0 hz0 hz1 hz2 rfl (by omega) _ 0 ([]) rfl (zav hown8 (br.alloc lr _)) _ 1 (zaf kc ⟨ok,oa,on⟩ 0 er).cells.toList rfl (evRd (zaf kc ⟨ok,oa,on⟩ 0 er) _) (zfo _) (by simp only [maxLen];omega) (by omega) (by simp;omega) ?_;intro v9 w9 hown9 hgrow9 hat9;have hb9:=zaw ((Below.refl w.heap.size w8).alloc hbw8 (.cells (zaf kc ⟨ok,oa,on⟩ 0 er).cells 37)) (zav hown8 (br.alloc lr _)) (by simp;omega) hgrow9)
  | fail)
 go_returns
 have on7:=(on6.tb hb7).trans on8 (fun _ _ e=> e)
 exact ⟨⟨_,rfl,hown9⟩,h8.belB hb9 lq0,(zdy hb9).stk hs8 (fun b hb e=> by rcases hb with rfl | hb;have:=lst b (.inl rfl);omega;cases hb),zfp on7 hb9⟩
end Go.Proofs.YthgekdlegbmehaaGreat

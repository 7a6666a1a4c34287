/- A world and the reference's begin; the first sentence of the layer. -/
import Derived.Test.YtampacmmhhilaaaGreatBq47

set_option linter.all false
set_option maxHeartbeats 4000000
set_option maxRecDepth 100000
namespace Go.Proofs.YtampacmmhhilaaaGreat

open Go.RowKit

attribute [local go_sem ↓] Go.wp_at_zero Go.wp_at_succ

theorem ydu:(Tryz.prog.info? 347).map (fun i=> (i.zero,i.size,i.bytes))=some (some (.pointer none),1,8):=by kernel_rfl
theorem z0w (n:Nat) (hn:n<=100):∀ u:World,(Instr.makeSlice 171 (.int .i64 (n:Int)) (.int .i64 (n:Int))).run Tryz.prog u= .ok (.slice (some ⟨u.heap.size,0,.none⟩) n n) (u.alloc (.cells (madeCells #[.pointer none] n) 347)):=fun u=> by
 obtain ⟨i0,hi,hz0,hz1,hz2⟩:=info_parts ydu
 have h:=run_make (P:=Tryz.prog) u 171 347 i0 (.pointer none) Tryz.underlying171 hi hz0 .i64 .i64 (n:Int) (n:Int) (by omega) (Int.le_refl _) (by rw [hz2];omega) (by omega)
 rw [Int.toNat_natCast] at h
 simpa [hz1,Value.cells] using h
theorem z0l (n:Nat) (hn:n<=2000) (w:World):
  Calls Tryz.prog 107 #[.int .i64 (n:Int)] w fun e w'=> (∃ p,e= .returned (.pointer (some ⟨p,0,.none⟩)))/\Below w.heap.size w w':=by
 have hmk:=zv8 n (by omega)
 have h1:decide ((n:Int) < 0)=false:=decide_eq_false (by omega)
 have h2:decide ((2000:Int) < (n:Int))=false:=decide_eq_false (by omega)
 go_enter Tryz.func107,Tryz.ntmps107
 go_wp2_with fail
 go_returns
 exact ⟨⟨_,rfl⟩,by go_grown⟩
theorem ybd (s:Sh) (W:World) (hm:mayB s.p s.c s.m=true):
  Calls Tryz.prog 61 #[.agg #[.int .i64 s.p,.int .i64 s.c,.int .i64 s.m]] W fun e w'=> Below W.heap.size W w'/\∃ g,e= .returned (.tuple #[.pointer (some ⟨g,0,.none⟩),.int .i64 0]):=by
 have hmy:=fun Y=> refMay_any s.p s.c s.m Y
 rw [hm] at hmy
 have hb:=zar.1 hm
 have hT:=(zoy hm).2
 have htt:=fun Y=> zv0 s Y
 obtain ⟨sp,sc,sm⟩:=s
 dsimp only at *
 obtain ⟨n,rfl⟩:∃ n:Nat,sc=(n:Int):=⟨sc.toNat,by omega⟩
 obtain ⟨N,hN,hNN⟩:∃ N:Nat,zb6 sp (n:Int) sm=(N:Int)/\N<=2000:=⟨(zb6 sp (n:Int) sm).toNat,by omega,by omega⟩
 rw [hN] at htt
 have hnw:=fun Y=> z0l N hNN Y
 have hmk:=z0w n (by omega)
 replace hmy:=hd' hmy
 replace htt:=hd' htt
 replace hnw:=hd' hnw
 have hn0:(n:Int)<=12:=by omega
 have hH:=heap_alloc_new W (.cells #[.int .i64 sp,.int .i64 (n:Int),.int .i64 sm] 23)
 have t0:zaa (W.alloc (.cells #[.int .i64 sp,.int .i64 (n:Int),.int .i64 sm] 23)) W.heap.size #[.int .i64 sp,.int .i64 (n:Int),.int .i64 sm] 23:=hH
 have t1:=t0.alloc (.cells #[.int .i64 sp,.int .i64 (n:Int),.int .i64 sm] 23)
 have hWX:Below W.heap.size W ((W.alloc (.cells #[.int .i64 sp,.int .i64 (n:Int),.int .i64 sm] 23)).alloc (.cells #[.int .i64 sp,.int .i64 (n:Int),.int .i64 sm] 23)):=by go_grown
 clear hm hb hT hN hNN hH t0
 go_enter Tryz.func61,Tryz.ntmps61
 go_upto_region 3 with (first
  | (go_at_call 28;(with_reducible refine (hmy.out _).mono ?_);rintro r w1 ⟨rfl,hw1⟩;obtain rfl:=hw1.symm)
  | fail)
 generalize (W.alloc (.cells #[.int .i64 sp,.int .i64 (n:Int),.int .i64 sm] 23)).alloc (.cells #[.int .i64 sp,.int .i64 (n:Int),.int .i64 sm] 23)=X at *
 obtain ⟨H,hH,hH'⟩:=hidv W.heap.size
 rw [<- hH'] at t1 ⊢
 clear hH'
 have lH:=t1.lt
 have hK:∀ Y,zaa Y H #[.int .i64 sp,.int .i64 (n:Int),.int .i64 sm] 23->Y.cell? ⟨H,0,.none⟩=some (.int .i64 sp)/\Y.cell? ⟨H,1,.none⟩=some (.int .i64 (n:Int))/\Y.cell? ⟨H,2,.none⟩=some (.int .i64 sm):=fun Y h=> ⟨h.cell 0,h.cell 1,h.cell 2⟩
 replace hK:=hd' hK
 go_region_held3 (fun Y=> Y.cell? ⟨H,0,.none⟩=some (.int .i64 sp)/\Y.cell? ⟨H,1,.none⟩=some (.int .i64 (n:Int))/\Y.cell? ⟨H,2,.none⟩=some (.int .i64 sm))
  (first | exact hK.out _ t1.drew | exact hK.out _ (t1.drew.alloc _) | exact hK.out _ ((t5.alloc _).alloc _) | exact hK.out _ (t5.alloc _) | exact hK.out _ t5 | exact hK.out _ (t4.alloc _) | exact hK.out _ t4 | fail)
  (first
   | (go_at_call 32;(with_reducible refine (htt.out _).mono ?_);rintro r w4 ⟨rfl,hb4⟩;have g4:Below X.heap.size X w4:=(by first | exact zab br.drew hb4 | exact zab (br.drew.alloc lr _) hb4);have t4:=t1.below g4)
   | (go_at_call 107;(with_reducible refine (hnw.out _).mono ?_);rintro r w5 ⟨⟨p,rfl⟩,hb5⟩;have g5:Below X.heap.size X w5:=(by first | exact zab g4 hb5 | exact zab (g4.alloc g4.size _) hb5);have t5:=t1.below g5)
   | fail)
 all_goals
  have hWs:=hWX.size
  have h5s:=g5.size
  have h6:=zab hWX g5
  go_wp2_with fail
  go_returns
  exact ⟨by first | exact (h6.alloc (by omega) _) | exact ((h6.alloc (by omega) _).alloc (by simp;omega) _),_,rfl⟩
theorem yez (s:Sh) (W:World) (hm:¬ mayB s.p s.c s.m=true):
  Calls Tryz.prog 61 #[.agg #[.int .i64 s.p,.int .i64 s.c,.int .i64 s.m]] W fun e w'=> Below W.heap.size W w'/\e= .returned (.tuple #[.pointer none,.int .i64 1]):=by
 have hmy:=fun Y=> refMay_any s.p s.c s.m Y
 have hm':mayB s.p s.c s.m=false:=by simpa using hm
 rw [hm'] at hmy
 obtain ⟨sp,sc,sm⟩:=s
 dsimp only at *
 replace hmy:=hd' hmy
 clear hm hm'
 go_enter Tryz.func61,Tryz.ntmps61
 go_wp2_with (first
  | (go_at_call 28;(with_reducible refine (hmy.out _).mono ?_);rintro r w1 ⟨rfl,hw1⟩;obtain rfl:=hw1.symm)
  | fail)
 go_returns
 exact ⟨by go_grown,rfl⟩
theorem znk (s:Sh) (W:World) (hm:mayB s.p s.c s.m=true):
  Calls Tryz.prog 17 #[.agg #[.int .i64 s.p,.int .i64 s.c,.int .i64 s.m]] W fun e w'=> Below W.heap.size W w'/\∃ g v x,e= .returned (.tuple #[.pointer (some ⟨g,0,.none⟩),.pointer (some ⟨v,0,.none⟩)])/\WdP W.heap.size (fun i=> W.heap.size<=i/\i < w'.heap.size) w' g s (zde s) x:=by
 have hA:=fun Y=> zzx s Y hm
 have hB:=fun Y=> ybd s Y hm
 have hnil:∀ (p:Nat) (W:World),(binOp .eql 27 (.pointer (some ⟨p,0,.none⟩)) (.pointer none)).run Tryz.prog W= .ok (.bool false) W:=fun p W=> by kernel_rfl
 have hb0:=(Below.refl W.heap.size W).alloc lr (.cells #[.int .i64 s.p,.int .i64 s.c,.int .i64 s.m] 23)
 have t0:zaa (W.alloc (.cells #[.int .i64 s.p,.int .i64 s.c,.int .i64 s.m] 23)) W.heap.size #[.int .i64 s.p,.int .i64 s.c,.int .i64 s.m] 23:=heap_alloc_new _ _
 replace hA:=hd' hA
 replace hB:=hd' hB
 clear hm
 go_enter Tryz.func17,Tryz.ntmps17
 go_upto_region 1 with fail
 have hz:(W.alloc (.cells #[.int .i64 s.p,.int .i64 s.c,.int .i64 s.m] 23)).heap.size=W.heap.size + 1:=by simp
 generalize W.alloc (.cells #[.int .i64 s.p,.int .i64 s.c,.int .i64 s.m] 23)=X at *
 obtain ⟨H,hH,hH'⟩:=hidv W.heap.size
 rw [<- hH'] at t0 hz ⊢
 obtain ⟨c0,c1,c2⟩:=ci3 s.p s.c s.m t0.cell
 replace hz:=hd' hz
 replace hH':=hd' hH'
 go_wp2_with (first
  | (go_at_call 47;(with_reducible refine (hA.out _).mono ?_);rintro r w1 ⟨hb1,g,x,rfl,hx1⟩;have t1:=t0.below hb1;have d0:=ci s.p (t1.cell 0);have d1:=ci s.c (t1.cell 1);have d2:=ci s.m (t1.cell 2))
  | (go_at_call 61;(with_reducible refine (hB.out _).mono ?_);rintro r w2 ⟨hb2,v,rfl⟩)
  | fail)
 go_returns
 have h1:=hb1.size
 have h2:=hb2.size
 have h3:=hz.out
 have h4:=hH'.out
 exact ⟨zab (zab hb0 hb1) hb2,g,v,x,rfl,((hx1.below hb2).lower (by omega)).weak (fun i hi=> ⟨by omega,by omega⟩) (fun i hi=> hi)⟩
theorem yfo (s:Sh) (W:World) (hm:¬ mayB s.p s.c s.m=true):
  Calls Tryz.prog 17 #[.agg #[.int .i64 s.p,.int .i64 s.c,.int .i64 s.m]] W fun e w'=> Below W.heap.size W w'/\e= .returned (.tuple #[.pointer none,.pointer none]):=by
 have hA:=fun Y=> z8i s Y hm
 have hB:=fun Y=> yez s Y hm
 have hb0:=(Below.refl W.heap.size W).alloc lr (.cells #[.int .i64 s.p,.int .i64 s.c,.int .i64 s.m] 23)
 have t0:zaa (W.alloc (.cells #[.int .i64 s.p,.int .i64 s.c,.int .i64 s.m] 23)) W.heap.size #[.int .i64 s.p,.int .i64 s.c,.int .i64 s.m] 23:=heap_alloc_new _ _
 have hnil:∀ W:World,(binOp .eql 27 (.pointer none) (.pointer none)).run Tryz.prog W= .ok (.bool true) W:=fun W=> by kernel_rfl
 replace hA:=hd' hA
 replace hB:=hd' hB
 clear hm
 go_enter Tryz.func17,Tryz.ntmps17
 go_upto_region 1 with fail
 generalize W.alloc (.cells #[.int .i64 s.p,.int .i64 s.c,.int .i64 s.m] 23)=X at *
 obtain ⟨H,hH,hH'⟩:=hidv W.heap.size
 rw [<- hH'] at t0 ⊢
 clear hH'
 obtain ⟨c0,c1,c2⟩:=ci3 s.p s.c s.m t0.cell
 go_wp2_with (first
  | (go_at_call 47;(with_reducible refine (hA.out _).mono ?_);rintro r w1 ⟨hb1,rfl⟩;have t1:=t0.below hb1;have d0:=ci s.p (t1.cell 0);have d1:=ci s.c (t1.cell 1);have d2:=ci s.m (t1.cell 2))
  | (go_at_call 61;(with_reducible refine (hB.out _).mono ?_);rintro r w2 ⟨hb2,rfl⟩)
  | fail)
 go_returns
 exact ⟨zab (zab hb0 hb1) hb2,rfl⟩
end Go.Proofs.YtampacmmhhilaaaGreat

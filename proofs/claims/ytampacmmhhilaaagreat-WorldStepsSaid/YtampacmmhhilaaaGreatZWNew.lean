/- A new world. -/
import Derived.Test.YtampacmmhhilaaaGreatZWldZ

set_option linter.all false
namespace Go.Proofs.YtampacmmhhilaaaGreat

open Go.RowKit

attribute [local go_sem ↓] Go.wp_at_zero Go.wp_at_succ

theorem infoPc:(Tryz.prog.info? 36).map (fun i=> (i.zero,i.size,i.bytes))=some (some (.pointer none),1,8):=by kernel_rfl
theorem make_cls (n:Nat) (hn:n≤100):∀ u:World,(Instr.makeSlice 120 (.int .i64 (n:Int)) (.int .i64 (n:Int))).run Tryz.prog u= .ok (.slice (some ⟨u.heap.size,0, .none⟩) n n) (u.alloc (.cells (madeCells #[.pointer none] n) 36)):=fun u=> by
 obtain ⟨i0,hi,hz0,hz1,hz2⟩:=info_parts infoPc
 have h:=run_make (P:=Tryz.prog) u 120 36 i0 (.pointer none) Tryz.underlying120 hi hz0 .i64 .i64 (n:Int) (n:Int) (by omega) (Int.le_refl _) (by rw [hz2];omega) (by omega)
 rw [Int.toNat_natCast] at h
 simpa [hz1,Value.cells] using h
theorem rowP_new (n:Nat):madeCells #[.pointer none] n=(List.replicate n (.pointer none)).toArray:=by
 apply Array.toList_inj.1
 rw [toList_madeCells_one]
theorem wdnew_fin {W Z:World} {s:Sh} {p b lb:Nat} (hm:mayB s.p s.c s.m=true) (hW:W.heap.size≤p∧W.heap.size≤b∧W.heap.size≤lb) (hlp:lb≠p∧lb≠b)
  (hw:WdsAt Z p b (memNew (totalV s.p s.c s.m).toNat)) (hl:RowAt Z lb (madeCells #[.pointer none] s.c.toNat) 36) (hZ:Below W.heap.size W Z):
  Below W.heap.size W (Z.alloc (.cells #[.int .i64 s.p, .int .i64 s.c, .int .i64 s.m, .pointer (some ⟨p,0, .none⟩), .slice (some ⟨lb,0, .none⟩) s.c.toNat s.c.toNat, .slice none 0 0, .slice none 0 0] 122))∧
  ∃ x,WdP W.heap.size (fun i=> W.heap.size≤i∧i < (Z.alloc (.cells #[.int .i64 s.p, .int .i64 s.c, .int .i64 s.m, .pointer (some ⟨p,0, .none⟩), .slice (some ⟨lb,0, .none⟩) s.c.toNat s.c.toNat, .slice none 0 0, .slice none 0 0] 122)).heap.size)
   (Z.alloc (.cells #[.int .i64 s.p, .int .i64 s.c, .int .i64 s.m, .pointer (some ⟨p,0, .none⟩), .slice (some ⟨lb,0, .none⟩) s.c.toNat s.c.toNat, .slice none 0 0, .slice none 0 0] 122)) Z.heap.size s (wdNew s) x:=by
 have hb:=mayB_iff.1 hm
 have hs:=hZ.size
 have hbZ:=(Below.refl Z.heap.size Z).alloc (Nat.le_refl _) (.cells #[.int .i64 s.p, .int .i64 s.c, .int .i64 s.m, .pointer (some ⟨p,0, .none⟩), .slice (some ⟨lb,0, .none⟩) s.c.toNat s.c.toNat, .slice none 0 0, .slice none 0 0] 122)
 have htop:RowAt (Z.alloc (.cells #[.int .i64 s.p, .int .i64 s.c, .int .i64 s.m, .pointer (some ⟨p,0, .none⟩), .slice (some ⟨lb,0, .none⟩) s.c.toNat s.c.toNat, .slice none 0 0, .slice none 0 0] 122)) Z.heap.size #[.int .i64 s.p, .int .i64 s.c, .int .i64 s.m, .pointer (some ⟨p,0, .none⟩), .slice (some ⟨lb,0, .none⟩) s.c.toNat s.c.toNat, .slice none 0 0, .slice none 0 0] 122:=heap_alloc_new _ _
 have hp:=hw.ltp
 have hbb:=hw.ltb
 have hll:=hl.lt
 have hne:=hw.ne
 have hlen:(wdNew s).l.length=s.c.toNat:=by simp [wdNew]
 have hno:∀ c,(wdNew s).l.getD c none=none:=fun c=> by
  unfold wdNew
  rw [List.getD_eq_getElem?_getD,List.getElem?_replicate]
  split <;> rfl
 have hsz:(Z.alloc (.cells #[.int .i64 s.p, .int .i64 s.c, .int .i64 s.m, .pointer (some ⟨p,0, .none⟩), .slice (some ⟨lb,0, .none⟩) s.c.toNat s.c.toNat, .slice none 0 0, .slice none 0 0] 122)).heap.size=Z.heap.size + 1:=by simp
 refine ⟨hZ.alloc (by omega) _,⟨p,b,lb, .slice none 0 0, .slice none 0 0,List.replicate s.c.toNat (.pointer none),fun _=> 0,fun i=> if i=Z.heap.size then 0 else if i=p then 1 else if i=b then 2 else 3,fun _ _=> False⟩,
  ?_,hw.below hbZ,?_,by simp [hlen],fun c hc=> ?_,fun c k hk=> ?_,⟨by simp [wdNew], .inl ⟨rfl,rfl⟩⟩,⟨by simp [wdNew], .inl ⟨rfl,rfl⟩⟩,fun i hi=> hi,⟨⟨hs,by omega⟩,if_pos rfl⟩,⟨⟨hW.1,by dsimp only;omega⟩,?_⟩,⟨⟨hW.2.1,by dsimp only;omega⟩,?_⟩,⟨⟨hW.2.2,by dsimp only;omega⟩,?_⟩,fun i e=> (by cases e),fun i e=> (by cases e),fun c i e=> e.elim⟩
 ·rw [hlen];exact htop
 ·have h1:=hl.below hbZ
  rw [rowP_new] at h1
  exact h1
 ·rw [hno]
  show (List.replicate s.c.toNat (Value.pointer none))[c]?=some (.pointer none)
  rw [List.getElem?_replicate,if_pos (by omega)]
 ·rw [hno] at hk;cases hk
 ·show (if p=Z.heap.size then 0 else if p=p then 1 else if p=b then 2 else 3)=1
  rw [if_neg (by omega),if_pos rfl]
 ·show (if b=Z.heap.size then 0 else if b=p then 1 else if b=b then 2 else 3)=2
  rw [if_neg (by omega),if_neg (fun e=> hne e.symm),if_pos rfl]
 ·show (if lb=Z.heap.size then 0 else if lb=p then 1 else if lb=b then 2 else 3)=3
  rw [if_neg (by omega),if_neg hlp.1,if_neg hlp.2]
set_option maxRecDepth 100000 in
set_option maxHeartbeats 4000000 in
theorem wdnew_yes (s:Sh) (W:World) (hm:mayB s.p s.c s.m=true):
  Calls Tryz.prog 47 #[.agg #[.int .i64 s.p, .int .i64 s.c, .int .i64 s.m]] W fun e w'=> Below W.heap.size W w'∧∃ g x,e= .returned (.tuple #[.pointer (some ⟨g,0, .none⟩), .int .i64 0])∧WdP W.heap.size (fun i=> W.heap.size≤i∧i < w'.heap.size) w' g s (wdNew s) x:=by
 have hmy:=fun Y=> may_any s.p s.c s.m Y
 rw [hm] at hmy
 have hb:=mayB_iff.1 hm
 have hT:=(lwTotal_bd hm).2
 have hfin:=fun Z p b lb=> wdnew_fin (W:=W) (Z:=Z) (p:=p) (b:=b) (lb:=lb) hm
 obtain ⟨sp,sc,sm⟩:=s
 dsimp only at *
 obtain ⟨n,rfl⟩:∃ n:Nat,sc=(n:Int):=⟨sc.toNat,by omega⟩
 rw [Int.toNat_natCast] at hfin
 have htt:=fun Y=> words_any sp (n:Int) sm Y
 obtain ⟨N,hN,hNN⟩:∃ N:Nat,totalV sp (n:Int) sm=(N:Int)∧N≤2000:=⟨(totalV sp (n:Int) sm).toNat,by omega,by omega⟩
 rw [hN] at htt hfin
 rw [Int.toNat_natCast] at hfin
 have hnw:=fun Y=> wnew_any N hNN Y
 have hmk:=make_cls n (by omega)
 replace hmy:=Lib.hid hmy
 replace htt:=Lib.hid htt
 replace hnw:=Lib.hid hnw
 replace hfin:=Lib.hid hfin
 have hn0:(n:Int)≤12:=by omega
 have hH:=heap_alloc_new W (.cells #[.int .i64 sp, .int .i64 (n:Int), .int .i64 sm] 23)
 have t0:RowAt (W.alloc (.cells #[.int .i64 sp, .int .i64 (n:Int), .int .i64 sm] 23)) W.heap.size #[.int .i64 sp, .int .i64 (n:Int), .int .i64 sm] 23:=hH
 have t1:=t0.alloc (.cells #[.int .i64 sp, .int .i64 (n:Int), .int .i64 sm] 23)
 have hWX:Below W.heap.size W ((W.alloc (.cells #[.int .i64 sp, .int .i64 (n:Int), .int .i64 sm] 23)).alloc (.cells #[.int .i64 sp, .int .i64 (n:Int), .int .i64 sm] 23)):=by go_grown
 clear hm hb hT hN hNN hH t0
 go_enter Tryz.func47,Tryz.ntmps47
 go_upto_region 3 with (first
  | (go_at_call 65;(with_reducible refine (hmy.out _).mono ?_);rintro r w1 ⟨rfl,hw1⟩;obtain rfl:=hw1.symm)
  | fail)
 generalize (W.alloc (.cells #[.int .i64 sp, .int .i64 (n:Int), .int .i64 sm] 23)).alloc (.cells #[.int .i64 sp, .int .i64 (n:Int), .int .i64 sm] 23)=X at *
 have hWs:=hWX.size
 obtain ⟨H,hH,hH'⟩:∃ H,Hid (H=W.heap.size)∧H=W.heap.size:=⟨_,Lib.hid rfl,rfl⟩
 rw [← hH'] at t1 ⊢
 clear hH'
 have lH:=t1.lt
 have hK:∀ Y,RowAt Y H #[.int .i64 sp, .int .i64 (n:Int), .int .i64 sm] 23→Y.cell? ⟨H,0, .none⟩=some (.int .i64 sp)∧Y.cell? ⟨H,1, .none⟩=some (.int .i64 (n:Int))∧Y.cell? ⟨H,2, .none⟩=some (.int .i64 sm):=fun Y h=> ⟨h.cell 0,h.cell 1,h.cell 2⟩
 replace hK:=Lib.hid hK
 go_region_held3 (fun Y=> Y.cell? ⟨H,0, .none⟩=some (.int .i64 sp)∧Y.cell? ⟨H,1, .none⟩=some (.int .i64 (n:Int))∧Y.cell? ⟨H,2, .none⟩=some (.int .i64 sm))
  (first | exact hK.out _ t1.drew | exact hK.out _ (t1.drew.alloc _) | exact hK.out _ ((t5.alloc _).alloc _) | exact hK.out _ (t5.alloc _) | exact hK.out _ t5 | exact hK.out _ (t4.alloc _) | exact hK.out _ t4 | fail)
  (first
   | (go_at_call 88;(with_reducible refine (htt.out _).mono ?_);rintro r w4 ⟨rfl,hb4⟩;have g4:Below X.heap.size X w4:=(by first | exact belowTrans (Below.refl _ _).drew hb4 | exact belowTrans ((Below.refl _ _).drew.alloc (Nat.le_refl _) _) hb4);have t4:=t1.below g4;try (have hl4:RowAt w4 X.heap.size (madeCells #[.pointer none] n) 36:=RowAt.below (heap_alloc_new X.drew _) hb4))
   | (go_at_call 87;(with_reducible refine (hnw.out _).mono ?_);rintro r w5 ⟨p,b,rfl,hw5,hp5,hbb5,hb5⟩;have g5:Below X.heap.size X w5:=(by first | exact belowTrans g4 hb5 | exact belowTrans (g4.alloc g4.size _) hb5);have t5:=t1.below g5;(try (have hl5:RowAt w5 X.heap.size (madeCells #[.pointer none] n) 36:=RowAt.below hl4 hb5));(try (have hl5:RowAt w5 w4.heap.size (madeCells #[.pointer none] n) 36:=RowAt.below (heap_alloc_new w4 _) hb5)))
   | fail)
 ·have hs4:=g4.size
  have hlp:=hw5.ltp
  have hlb:=hw5.ltb
  have ha:=(Below.refl w5.heap.size w5).alloc (Nat.le_refl _) (.cells (madeCells #[.pointer none] n) 36)
  obtain ⟨f1,x,f2⟩:=hfin.out (w5.alloc (.cells (madeCells #[.pointer none] n) 36)) p b w5.heap.size ⟨by omega,by omega,by omega⟩ ⟨by omega,by omega⟩ (hw5.below ha) (heap_alloc_new w5 _) (belowTrans (belowTrans hWX g5) ha)
  have hz:(w5.alloc (.cells (madeCells #[.pointer none] n) 36)).heap.size=w5.heap.size + 1:=by simp
  rw [hz] at f2
  go_wp2_with fail
  go_returns
  exact ⟨f1,_,x,rfl,f2⟩
 ·have hs4:=g4.size
  have hz:(w4.alloc (.cells (madeCells #[.pointer none] n) 36)).heap.size=w4.heap.size + 1:=by simp
  rw [hz] at hp5 hbb5
  obtain ⟨f1,x,f2⟩:=hfin.out w5 p b w4.heap.size ⟨by omega,by omega,by omega⟩ ⟨by omega,by omega⟩ hw5 hl5 (belowTrans hWX g5)
  go_wp2_with fail
  go_returns
  exact ⟨f1,_,x,rfl,f2⟩
 ·have hl4s:=hl4.lt
  obtain ⟨f1,x,f2⟩:=hfin.out w5 p b X.heap.size ⟨by omega,by omega,by omega⟩ ⟨by omega,by omega⟩ hw5 hl5 (belowTrans hWX g5)
  go_wp2_with fail
  go_returns
  exact ⟨f1,_,x,rfl,f2⟩
theorem wdnew_no (s:Sh) (W:World) (hm:¬ mayB s.p s.c s.m=true):
  Calls Tryz.prog 47 #[.agg #[.int .i64 s.p, .int .i64 s.c, .int .i64 s.m]] W fun e w'=> Below W.heap.size W w'∧e= .returned (.tuple #[.pointer none, .int .i64 1]):=by
 have hmy:=fun Y=> may_any s.p s.c s.m Y
 have hm':mayB s.p s.c s.m=false:=by simpa using hm
 rw [hm'] at hmy
 obtain ⟨sp,sc,sm⟩:=s
 dsimp only at *
 replace hmy:=Lib.hid hmy
 clear hm hm'
 go_enter Tryz.func47,Tryz.ntmps47
 go_wp2_with (first
  | (go_at_call 65;(with_reducible refine (hmy.out _).mono ?_);rintro r w1 ⟨rfl,hw1⟩;obtain rfl:=hw1.symm)
  | fail)
 go_returns
 exact ⟨by go_grown,rfl⟩
end Go.Proofs.YtampacmmhhilaaaGreat

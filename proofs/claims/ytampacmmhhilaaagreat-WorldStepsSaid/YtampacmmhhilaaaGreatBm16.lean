/- Blocks, Committers, Undoers in memory. -/
import Derived.Test.YtampacmmhhilaaaGreatBm15

set_option linter.all false
namespace Go.Proofs.YtampacmmhhilaaaGreat

open Go.RowKit

attribute [local go_sem ↓] Go.wp_at_zero Go.wp_at_succ

def blkCells (b:Blk):Array Value:= #[.bool b.large, .int .i64 b.page, .int .i64 b.slot, .int .i64 b.k, .int .i64 b.pages]
set_option maxHeartbeats 1000000 in
theorem blkat_any (b:Blk) (w:World) (hp:0≤b.page∧b.page≤64) (hs:b.large=false→0≤b.slot∧b.slot≤16):
  Calls Tryz.prog 174 #[.agg #[.bool b.large, .int .i64 b.page, .int .i64 b.slot, .int .i64 b.k, .int .i64 b.pages]] w fun e w'=> e= .returned (.int .i64 b.at')∧Below w.heap.size w w':=by
 unfold Blk.at'
 obtain ⟨blarge,bpage,bslot,bk,bpages⟩:=b
 dsimp only at hp hs ⊢
 obtain ⟨p1,p2⟩:=hp
 cases blarge
 ·have had:=Lib.hid (fun Y=> address_any bpage bslot bk Y ⟨p1,p2⟩ (hs rfl))
  clear hs
  simp only [Bool.false_eq_true,if_false]
  generalize bpage * 64 + bslot * sizeV bk=a at *
  go_enter Tryz.func174,Tryz.ntmps174
  go_wp2_with (first | (go_at_call 99;(with_reducible refine (had.out _).mono ?_);rintro r w1 ⟨rfl,rfl⟩) | fail)
  go_returns
  exact ⟨rfl,(Below.refl _ _).alloc (Nat.le_refl _) _⟩
 ·have w1:IntKind.i64.wrap (bpage * 64)=bpage * 64:=IntWalk.i64_in _ ⟨by omega,by omega⟩
  simp only [if_true]
  clear hs
  go_enter Tryz.func174,Tryz.ntmps174
  go_wp2_with fail
  go_returns
  exact ⟨rfl,(Below.refl _ _).alloc (Nat.le_refl _) _⟩
set_option maxHeartbeats 1000000 in
theorem blklen_any (b:Blk) (w:World) (hp:0≤b.pages∧b.pages≤64):
  Calls Tryz.prog 175 #[.agg #[.bool b.large, .int .i64 b.page, .int .i64 b.slot, .int .i64 b.k, .int .i64 b.pages]] w fun e w'=> e= .returned (.int .i64 b.len)∧Below w.heap.size w w':=by
 unfold Blk.len
 obtain ⟨blarge,bpage,bslot,bk,bpages⟩:=b
 dsimp only at hp ⊢
 obtain ⟨p1,p2⟩:=hp
 cases blarge
 ·have had:=Lib.hid (fun Y=> size_any bk Y)
  simp only [Bool.false_eq_true,if_false]
  generalize sizeV bk=a at *
  go_enter Tryz.func175,Tryz.ntmps175
  go_wp2_with (first | (go_at_call 100;(with_reducible refine (had.out _).mono ?_);rintro r w1 ⟨rfl,rfl⟩) | fail)
  go_returns
  exact ⟨rfl,(Below.refl _ _).alloc (Nat.le_refl _) _⟩
 ·have w1:IntKind.i64.wrap (bpages * 64)=bpages * 64:=IntWalk.i64_in _ ⟨by omega,by omega⟩
  simp only [if_true]
  go_enter Tryz.func175,Tryz.ntmps175
  go_wp2_with fail
  go_returns
  exact ⟨rfl,(Below.refl _ _).alloc (Nat.le_refl _) _⟩
set_option maxHeartbeats 2000000 in
theorem blkfits_any (s:Sh) (c:Int) (b:Blk) (w:World):
  Calls Tryz.prog 211 #[.agg #[.bool b.large, .int .i64 b.page, .int .i64 b.slot, .int .i64 b.k, .int .i64 b.pages], .agg #[.int .i64 s.p, .int .i64 s.c, .int .i64 s.m], .int .i64 c] w fun e w'=> e= .returned (.bool (b.fits s c))∧Below w.heap.size w w':=by
 have hg:=fun W=> planStatus_any s.p s.c s.m c W
 have hp:=fun W=> planPage_any s.p s.c s.m b.page W
 have hsl:=fun W=> slots_any b.k W
 have hpi:0≤pageIx s.p s.c s.m b.page→(0≤b.page∧b.page < 64)∧0 < s.p∧s.p≤64:=fun h=> by
  have h1:=pageIx_ok h
  have h2:=mayB_iff.1 h1.1
  omega
 obtain ⟨g,hgd,hgd'⟩:∃ g,Hid (g=b.fits s c)∧g=b.fits s c:=⟨_,Lib.hid rfl,rfl⟩
 rw [← hgd']
 clear hgd'
 have hgd2:Hid (g=if statusIx s.p s.c s.m c < 0∨pageIx s.p s.c s.m b.page < 0 then false else if b.large=true then decide (1≤b.pages) && decide (b.pages≤8) && decide (b.pages≤s.p - b.page) else decide (0≤b.slot) && decide (b.slot < slotsV b.k)):=hgd
 clear hgd
 generalize statusIx s.p s.c s.m c=sx at *
 generalize pageIx s.p s.c s.m b.page=px at *
 generalize slotsV b.k=sv at *
 obtain ⟨sp,sc,sm⟩:=s
 obtain ⟨blarge,bpage,bslot,bk,bpages⟩:=b
 dsimp only at hg hp hpi hsl hgd2 ⊢
 replace hg:=Lib.hid hg
 replace hp:=Lib.hid hp
 replace hsl:=Lib.hid hsl
 have t0:=two_blocks w (.cells #[.bool blarge, .int .i64 bpage, .int .i64 bslot, .int .i64 bk, .int .i64 bpages] 263) (.cells #[.int .i64 sp, .int .i64 sc, .int .i64 sm] 23)
 obtain ⟨ta,tb,tz,hb0⟩:=t0
 go_enter Tryz.func211,Tryz.ntmps211
 go_upto_region 1 with fail
 generalize (w.alloc (.cells #[.bool blarge, .int .i64 bpage, .int .i64 bslot, .int .i64 bk, .int .i64 bpages] 263)).alloc (.cells #[.int .i64 sp, .int .i64 sc, .int .i64 sm] 23)=W at *
 obtain ⟨H,hH,hH'⟩:∃ H,Hid (H=w.heap.size)∧H=w.heap.size:=⟨_,Lib.hid rfl,rfl⟩
 simp only [← hH'] at ta tb tz ⊢
 have lH:H < W.heap.size:=by omega
 have lH1:H + 1 < W.heap.size:=by omega
 have ta:RowAt W H #[.bool blarge, .int .i64 bpage, .int .i64 bslot, .int .i64 bk, .int .i64 bpages] 263:=ta
 have tb:RowAt W (H + 1) #[.int .i64 sp, .int .i64 sc, .int .i64 sm] 23:=tb
 clear hH' tz
 have c0:W.cell? ⟨H + 1,0, .none⟩=some (.int .i64 sp):=tb.cell 0
 have c1:W.cell? ⟨H + 1,1, .none⟩=some (.int .i64 sc):=tb.cell 1
 have c2:W.cell? ⟨H + 1,2, .none⟩=some (.int .i64 sm):=tb.cell 2
 rcases Int.lt_or_le sx 0 with h1 | h1
 ·replace hgd2:=Lib.hid (hgd2.out.trans (if_pos (.inl h1)))
  go_wp2_with (first
   | (go_at_call 67;(with_reducible refine (hg.out _).mono ?_);rintro r w1 ⟨rfl,hb1⟩)
   | fail)
  go_returns
  exact ⟨by rw [hgd2.out];rfl,hb0.trans (hb1.mono hb0.size)⟩
 have q1:decide (sx < 0)=false:=decide_eq_false (Int.not_lt.2 h1)
 rcases Int.lt_or_le px 0 with h2 | h2
 ·replace hgd2:=Lib.hid (hgd2.out.trans (if_pos (.inr h2)))
  go_wp2_with (first
   | (go_at_call 67;(with_reducible refine (hg.out _).mono ?_);rintro r w1 ⟨rfl,hb1⟩;have ta1:=ta.below hb1;have tb1:=tb.below hb1;have d0:w1.cell? ⟨H + 1,0, .none⟩=some (.int .i64 sp):=tb1.cell 0;have d1:w1.cell? ⟨H + 1,1, .none⟩=some (.int .i64 sc):=tb1.cell 1;have d2:w1.cell? ⟨H + 1,2, .none⟩=some (.int .i64 sm):=tb1.cell 2;have e1:w1.cell? ⟨H,1, .none⟩=some (.int .i64 bpage):=ta1.cell 1)
   | (go_at_call 136;(with_reducible refine (hp.out _).mono ?_);rintro r w2 ⟨rfl,hb2⟩)
   | fail)
  go_returns
  exact ⟨by rw [hgd2.out];rfl,hb0.trans ((belowTrans hb1 hb2).mono hb0.size)⟩
 obtain ⟨⟨p1,p2⟩,p4,p3⟩:=hpi h2
 replace hgd2:=Lib.hid (hgd2.out.trans (if_neg (by omega)))
 have q2:decide (px < 0)=false:=decide_eq_false (Int.not_lt.2 h2)
 have w1:IntKind.i64.wrap (sp - bpage)=sp - bpage:=IntWalk.i64_in _ ⟨by omega,by omega⟩
 clear hpi
 rcases Bool.eq_false_or_eq_true blarge with hl | hl
 ·replace hgd2:=Lib.hid (hgd2.out.trans (if_pos hl))
  subst hl
  have hcs:(bpages < 1)∨(1≤bpages∧8 < bpages)∨(1≤bpages∧bpages≤8∧sp - bpage < bpages)∨(1≤bpages∧bpages≤8∧bpages≤sp - bpage):=by omega
  rcases hcs with h3 | ⟨h3,h4⟩ | ⟨h3,h4,h5⟩ | ⟨h3,h4,h5⟩
  ·replace hgd2:=Lib.hid (hgd2.out.trans (by rw [decide_eq_false (Int.not_le.2 h3)];rfl:_=false))
   go_wp2_with (first
   | (go_at_call 67;(with_reducible refine (hg.out _).mono ?_);rintro r w1 ⟨rfl,hb1⟩;have ta1:=ta.below hb1;have tb1:=tb.below hb1;have d0:w1.cell? ⟨H + 1,0, .none⟩=some (.int .i64 sp):=tb1.cell 0;have d1:w1.cell? ⟨H + 1,1, .none⟩=some (.int .i64 sc):=tb1.cell 1;have d2:w1.cell? ⟨H + 1,2, .none⟩=some (.int .i64 sm):=tb1.cell 2;have e1:w1.cell? ⟨H,1, .none⟩=some (.int .i64 bpage):=ta1.cell 1)
   | (go_at_call 136;(with_reducible refine (hp.out _).mono ?_);rintro r w2 ⟨rfl,hb2⟩;have ta2:=ta1.below hb2;have tb2:=tb1.below hb2;have k0:w2.cell? ⟨H + 1,0, .none⟩=some (.int .i64 sp):=tb2.cell 0;have l0:w2.cell? ⟨H,0, .none⟩=some (.bool true):=ta2.cell 0;have l1:w2.cell? ⟨H,1, .none⟩=some (.int .i64 bpage):=ta2.cell 1;have l2:w2.cell? ⟨H,2, .none⟩=some (.int .i64 bslot):=ta2.cell 2;have l3:w2.cell? ⟨H,3, .none⟩=some (.int .i64 bk):=ta2.cell 3;have l4:w2.cell? ⟨H,4, .none⟩=some (.int .i64 bpages):=ta2.cell 4)
   | fail)
   go_returns
   exact ⟨by rw [hgd2.out];rfl,hb0.trans ((belowTrans hb1 hb2).mono hb0.size)⟩
  ·replace hgd2:=Lib.hid (hgd2.out.trans (by rw [decide_eq_false (Int.not_le.2 h4),Bool.and_false,Bool.false_and]:_=false))
   go_wp2_with (first
   | (go_at_call 67;(with_reducible refine (hg.out _).mono ?_);rintro r w1 ⟨rfl,hb1⟩;have ta1:=ta.below hb1;have tb1:=tb.below hb1;have d0:w1.cell? ⟨H + 1,0, .none⟩=some (.int .i64 sp):=tb1.cell 0;have d1:w1.cell? ⟨H + 1,1, .none⟩=some (.int .i64 sc):=tb1.cell 1;have d2:w1.cell? ⟨H + 1,2, .none⟩=some (.int .i64 sm):=tb1.cell 2;have e1:w1.cell? ⟨H,1, .none⟩=some (.int .i64 bpage):=ta1.cell 1)
   | (go_at_call 136;(with_reducible refine (hp.out _).mono ?_);rintro r w2 ⟨rfl,hb2⟩;have ta2:=ta1.below hb2;have tb2:=tb1.below hb2;have k0:w2.cell? ⟨H + 1,0, .none⟩=some (.int .i64 sp):=tb2.cell 0;have l0:w2.cell? ⟨H,0, .none⟩=some (.bool true):=ta2.cell 0;have l1:w2.cell? ⟨H,1, .none⟩=some (.int .i64 bpage):=ta2.cell 1;have l2:w2.cell? ⟨H,2, .none⟩=some (.int .i64 bslot):=ta2.cell 2;have l3:w2.cell? ⟨H,3, .none⟩=some (.int .i64 bk):=ta2.cell 3;have l4:w2.cell? ⟨H,4, .none⟩=some (.int .i64 bpages):=ta2.cell 4)
   | fail)
   go_returns
   exact ⟨by rw [hgd2.out];rfl,hb0.trans ((belowTrans hb1 hb2).mono hb0.size)⟩
  ·replace hgd2:=Lib.hid (hgd2.out.trans (by rw [decide_eq_false (Int.not_le.2 h5),Bool.and_false]:_=false))
   have q5:decide (bpages≤sp - bpage)=false:=decide_eq_false (Int.not_le.2 h5)
   go_wp2_with (first
   | (go_at_call 67;(with_reducible refine (hg.out _).mono ?_);rintro r w1 ⟨rfl,hb1⟩;have ta1:=ta.below hb1;have tb1:=tb.below hb1;have d0:w1.cell? ⟨H + 1,0, .none⟩=some (.int .i64 sp):=tb1.cell 0;have d1:w1.cell? ⟨H + 1,1, .none⟩=some (.int .i64 sc):=tb1.cell 1;have d2:w1.cell? ⟨H + 1,2, .none⟩=some (.int .i64 sm):=tb1.cell 2;have e1:w1.cell? ⟨H,1, .none⟩=some (.int .i64 bpage):=ta1.cell 1)
   | (go_at_call 136;(with_reducible refine (hp.out _).mono ?_);rintro r w2 ⟨rfl,hb2⟩;have ta2:=ta1.below hb2;have tb2:=tb1.below hb2;have k0:w2.cell? ⟨H + 1,0, .none⟩=some (.int .i64 sp):=tb2.cell 0;have l0:w2.cell? ⟨H,0, .none⟩=some (.bool true):=ta2.cell 0;have l1:w2.cell? ⟨H,1, .none⟩=some (.int .i64 bpage):=ta2.cell 1;have l2:w2.cell? ⟨H,2, .none⟩=some (.int .i64 bslot):=ta2.cell 2;have l3:w2.cell? ⟨H,3, .none⟩=some (.int .i64 bk):=ta2.cell 3;have l4:w2.cell? ⟨H,4, .none⟩=some (.int .i64 bpages):=ta2.cell 4)
   | fail)
   go_returns
   exact ⟨by rw [hgd2.out];rfl,hb0.trans ((belowTrans hb1 hb2).mono hb0.size)⟩
  ·replace hgd2:=Lib.hid (hgd2.out.trans (by rw [decide_eq_true h3,decide_eq_true h4,decide_eq_true h5];rfl:_=true))
   have q5:decide (bpages≤sp - bpage)=true:=decide_eq_true h5
   go_wp2_with (first
   | (go_at_call 67;(with_reducible refine (hg.out _).mono ?_);rintro r w1 ⟨rfl,hb1⟩;have ta1:=ta.below hb1;have tb1:=tb.below hb1;have d0:w1.cell? ⟨H + 1,0, .none⟩=some (.int .i64 sp):=tb1.cell 0;have d1:w1.cell? ⟨H + 1,1, .none⟩=some (.int .i64 sc):=tb1.cell 1;have d2:w1.cell? ⟨H + 1,2, .none⟩=some (.int .i64 sm):=tb1.cell 2;have e1:w1.cell? ⟨H,1, .none⟩=some (.int .i64 bpage):=ta1.cell 1)
   | (go_at_call 136;(with_reducible refine (hp.out _).mono ?_);rintro r w2 ⟨rfl,hb2⟩;have ta2:=ta1.below hb2;have tb2:=tb1.below hb2;have k0:w2.cell? ⟨H + 1,0, .none⟩=some (.int .i64 sp):=tb2.cell 0;have l0:w2.cell? ⟨H,0, .none⟩=some (.bool true):=ta2.cell 0;have l1:w2.cell? ⟨H,1, .none⟩=some (.int .i64 bpage):=ta2.cell 1;have l2:w2.cell? ⟨H,2, .none⟩=some (.int .i64 bslot):=ta2.cell 2;have l3:w2.cell? ⟨H,3, .none⟩=some (.int .i64 bk):=ta2.cell 3;have l4:w2.cell? ⟨H,4, .none⟩=some (.int .i64 bpages):=ta2.cell 4)
   | fail)
   go_returns
   exact ⟨by rw [hgd2.out];rfl,hb0.trans ((belowTrans hb1 hb2).mono hb0.size)⟩
 ·replace hgd2:=Lib.hid (hgd2.out.trans (if_neg (by rw [hl];decide)))
  subst hl
  have hcs:(bslot < 0)∨(0≤bslot∧sv≤bslot)∨(0≤bslot∧bslot < sv):=by omega
  rcases hcs with h3 | ⟨h3,h4⟩ | ⟨h3,h4⟩
  ·replace hgd2:=Lib.hid (hgd2.out.trans (by rw [decide_eq_false (Int.not_le.2 h3)];rfl:_=false))
   have q3:decide (0≤bslot)=false:=decide_eq_false (Int.not_le.2 h3)
   go_upto_region 5 with (first
   | (go_at_call 67;(with_reducible refine (hg.out _).mono ?_);rintro r w1 ⟨rfl,hb1⟩;have ta1:=ta.below hb1;have tb1:=tb.below hb1;have d0:w1.cell? ⟨H + 1,0, .none⟩=some (.int .i64 sp):=tb1.cell 0;have d1:w1.cell? ⟨H + 1,1, .none⟩=some (.int .i64 sc):=tb1.cell 1;have d2:w1.cell? ⟨H + 1,2, .none⟩=some (.int .i64 sm):=tb1.cell 2;have e1:w1.cell? ⟨H,1, .none⟩=some (.int .i64 bpage):=ta1.cell 1)
   | (go_at_call 136;(with_reducible refine (hp.out _).mono ?_);rintro r w2 ⟨rfl,hb2⟩;have ta2:=ta1.below hb2;have tb2:=tb1.below hb2;have k0:w2.cell? ⟨H + 1,0, .none⟩=some (.int .i64 sp):=tb2.cell 0;have l0:w2.cell? ⟨H,0, .none⟩=some (.bool false):=ta2.cell 0;have l1:w2.cell? ⟨H,1, .none⟩=some (.int .i64 bpage):=ta2.cell 1;have l2:w2.cell? ⟨H,2, .none⟩=some (.int .i64 bslot):=ta2.cell 2;have l3:w2.cell? ⟨H,3, .none⟩=some (.int .i64 bk):=ta2.cell 3;have l4:w2.cell? ⟨H,4, .none⟩=some (.int .i64 bpages):=ta2.cell 4)
   | fail)
   have lH2:H < w2.heap.size:=ta2.lt
   refine wp_region_ext (by kernel_rfl) (by kernel_rfl) ?_
   repeat (go_big_quiet_step ((first | (go_at_call 97;exact ext_same ((hsl.out _).mono fun _ _ h=> ⟨h.1,h.2⟩)) | fail)))
   refine wpQuiet_nil ?_
   rintro _ ⟨e',rfl⟩
   have hb3:=e'.below
   generalize e'.w=X at *
   go_wp2_with fail
   go_returns
   exact ⟨by rw [hgd2.out];rfl,hb0.trans ((belowTrans (belowTrans hb1 hb2) hb3).mono hb0.size)⟩
  ·replace hgd2:=Lib.hid (hgd2.out.trans (by rw [decide_eq_false (Int.not_lt.2 h4),Bool.and_false]:_=false))
   have q3:decide (0≤bslot)=true:=decide_eq_true h3
   have q4:decide (bslot < sv)=false:=decide_eq_false (Int.not_lt.2 h4)
   go_upto_region 5 with (first
   | (go_at_call 67;(with_reducible refine (hg.out _).mono ?_);rintro r w1 ⟨rfl,hb1⟩;have ta1:=ta.below hb1;have tb1:=tb.below hb1;have d0:w1.cell? ⟨H + 1,0, .none⟩=some (.int .i64 sp):=tb1.cell 0;have d1:w1.cell? ⟨H + 1,1, .none⟩=some (.int .i64 sc):=tb1.cell 1;have d2:w1.cell? ⟨H + 1,2, .none⟩=some (.int .i64 sm):=tb1.cell 2;have e1:w1.cell? ⟨H,1, .none⟩=some (.int .i64 bpage):=ta1.cell 1)
   | (go_at_call 136;(with_reducible refine (hp.out _).mono ?_);rintro r w2 ⟨rfl,hb2⟩;have ta2:=ta1.below hb2;have tb2:=tb1.below hb2;have k0:w2.cell? ⟨H + 1,0, .none⟩=some (.int .i64 sp):=tb2.cell 0;have l0:w2.cell? ⟨H,0, .none⟩=some (.bool false):=ta2.cell 0;have l1:w2.cell? ⟨H,1, .none⟩=some (.int .i64 bpage):=ta2.cell 1;have l2:w2.cell? ⟨H,2, .none⟩=some (.int .i64 bslot):=ta2.cell 2;have l3:w2.cell? ⟨H,3, .none⟩=some (.int .i64 bk):=ta2.cell 3;have l4:w2.cell? ⟨H,4, .none⟩=some (.int .i64 bpages):=ta2.cell 4)
   | fail)
   have lH2:H < w2.heap.size:=ta2.lt
   refine wp_region_ext (by kernel_rfl) (by kernel_rfl) ?_
   repeat (go_big_quiet_step ((first | (go_at_call 97;exact ext_same ((hsl.out _).mono fun _ _ h=> ⟨h.1,h.2⟩)) | fail)))
   refine wpQuiet_nil ?_
   rintro _ ⟨e',rfl⟩
   have hb3:=e'.below
   generalize e'.w=X at *
   go_wp2_with fail
   go_returns
   exact ⟨by rw [hgd2.out];rfl,hb0.trans ((belowTrans (belowTrans hb1 hb2) hb3).mono hb0.size)⟩
  ·replace hgd2:=Lib.hid (hgd2.out.trans (by rw [decide_eq_true h3,decide_eq_true h4];rfl:_=true))
   have q3:decide (0≤bslot)=true:=decide_eq_true h3
   have q4:decide (bslot < sv)=true:=decide_eq_true h4
   go_upto_region 5 with (first
   | (go_at_call 67;(with_reducible refine (hg.out _).mono ?_);rintro r w1 ⟨rfl,hb1⟩;have ta1:=ta.below hb1;have tb1:=tb.below hb1;have d0:w1.cell? ⟨H + 1,0, .none⟩=some (.int .i64 sp):=tb1.cell 0;have d1:w1.cell? ⟨H + 1,1, .none⟩=some (.int .i64 sc):=tb1.cell 1;have d2:w1.cell? ⟨H + 1,2, .none⟩=some (.int .i64 sm):=tb1.cell 2;have e1:w1.cell? ⟨H,1, .none⟩=some (.int .i64 bpage):=ta1.cell 1)
   | (go_at_call 136;(with_reducible refine (hp.out _).mono ?_);rintro r w2 ⟨rfl,hb2⟩;have ta2:=ta1.below hb2;have tb2:=tb1.below hb2;have k0:w2.cell? ⟨H + 1,0, .none⟩=some (.int .i64 sp):=tb2.cell 0;have l0:w2.cell? ⟨H,0, .none⟩=some (.bool false):=ta2.cell 0;have l1:w2.cell? ⟨H,1, .none⟩=some (.int .i64 bpage):=ta2.cell 1;have l2:w2.cell? ⟨H,2, .none⟩=some (.int .i64 bslot):=ta2.cell 2;have l3:w2.cell? ⟨H,3, .none⟩=some (.int .i64 bk):=ta2.cell 3;have l4:w2.cell? ⟨H,4, .none⟩=some (.int .i64 bpages):=ta2.cell 4)
   | fail)
   have lH2:H < w2.heap.size:=ta2.lt
   refine wp_region_ext (by kernel_rfl) (by kernel_rfl) ?_
   repeat (go_big_quiet_step ((first | (go_at_call 97;exact ext_same ((hsl.out _).mono fun _ _ h=> ⟨h.1,h.2⟩)) | fail)))
   refine wpQuiet_nil ?_
   rintro _ ⟨e',rfl⟩
   have hb3:=e'.below
   generalize e'.w=X at *
   go_wp2_with fail
   go_returns
   exact ⟨by rw [hgd2.out];rfl,hb0.trans ((belowTrans (belowTrans hb1 hb2) hb3).mono hb0.size)⟩
def cmCells (s:Sh) (t:Cm):Array Value:= #[.int .i64 s.p, .int .i64 s.c, .int .i64 s.m, .int .i64 t.c, .bool t.b.large, .int .i64 t.b.page, .int .i64 t.b.slot, .int .i64 t.b.k, .int .i64 t.b.pages, .bool t.done]
def unCells (s:Sh) (t:Un):Array Value:= #[.int .i64 s.p, .int .i64 s.c, .int .i64 s.m, .int .i64 t.c, .bool t.b.large, .int .i64 t.b.page, .int .i64 t.b.slot, .int .i64 t.b.k, .int .i64 t.b.pages, .int .i64 t.i, .bool t.done]
set_option maxHeartbeats 1000000 in
theorem cmnew_any (s:Sh) (c:Int) (b:Blk) (w:World):
  Calls Tryz.prog 199 #[.agg #[.int .i64 s.p, .int .i64 s.c, .int .i64 s.m], .int .i64 c, .agg #[.bool b.large, .int .i64 b.page, .int .i64 b.slot, .int .i64 b.k, .int .i64 b.pages]] w fun e w'=> Born w w' e (cmCells s (cmNew s c b)) 310:=by
 have hg:=fun W=> blkfits_any s c b W
 have hn:cmCells s (cmNew s c b)= #[.int .i64 s.p, .int .i64 s.c, .int .i64 s.m, .int .i64 c, .bool b.large, .int .i64 b.page, .int .i64 b.slot, .int .i64 b.k, .int .i64 b.pages, .bool (!b.fits s c)]:=rfl
 rw [hn]
 clear hn
 generalize b.fits s c=g at *
 obtain ⟨sp,sc,sm⟩:=s
 obtain ⟨blarge,bpage,bslot,bk,bpages⟩:=b
 dsimp only at hg ⊢
 replace hg:=Lib.hid hg
 have t0:=two_blocks w (.cells #[.int .i64 sp, .int .i64 sc, .int .i64 sm] 23) (.cells #[.bool blarge, .int .i64 bpage, .int .i64 bslot, .int .i64 bk, .int .i64 bpages] 263)
 obtain ⟨ta,tb,tz,hb0⟩:=t0
 go_enter Tryz.func199,Tryz.ntmps199
 go_upto_region 1 with fail
 generalize (w.alloc (.cells #[.int .i64 sp, .int .i64 sc, .int .i64 sm] 23)).alloc (.cells #[.bool blarge, .int .i64 bpage, .int .i64 bslot, .int .i64 bk, .int .i64 bpages] 263)=W at *
 obtain ⟨H,hH,hH'⟩:∃ H,Hid (H=w.heap.size)∧H=w.heap.size:=⟨_,Lib.hid rfl,rfl⟩
 simp only [← hH'] at ta tb tz ⊢
 have lH:H < W.heap.size:=by omega
 have lH1:H + 1 < W.heap.size:=by omega
 have ta:RowAt W H #[.int .i64 sp, .int .i64 sc, .int .i64 sm] 23:=ta
 have tb:RowAt W (H + 1) #[.bool blarge, .int .i64 bpage, .int .i64 bslot, .int .i64 bk, .int .i64 bpages] 263:=tb
 clear hH' tz
 have c0:W.cell? ⟨H,0, .none⟩=some (.int .i64 sp):=ta.cell 0
 have c1:W.cell? ⟨H,1, .none⟩=some (.int .i64 sc):=ta.cell 1
 have c2:W.cell? ⟨H,2, .none⟩=some (.int .i64 sm):=ta.cell 2
 have d0:W.cell? ⟨H + 1,0, .none⟩=some (.bool blarge):=tb.cell 0
 have d1:W.cell? ⟨H + 1,1, .none⟩=some (.int .i64 bpage):=tb.cell 1
 have d2:W.cell? ⟨H + 1,2, .none⟩=some (.int .i64 bslot):=tb.cell 2
 have d3:W.cell? ⟨H + 1,3, .none⟩=some (.int .i64 bk):=tb.cell 3
 have d4:W.cell? ⟨H + 1,4, .none⟩=some (.int .i64 bpages):=tb.cell 4
 refine wp_region_ext_tail 9 (by kernel_rfl) (by kernel_rfl) ?_
 dsimp only [List.take,List.drop]
 repeat (go_big_quiet_step ((first | (go_at_call 211;exact ext_of (hg.out _)) | fail)))
 refine wpQuiet_nil ?_
 rintro _ ⟨e',rfl⟩
 have hbe:=e'.below
 generalize e'.w=X at *
 change wpList _ _ _ _ _ X
 go_wp2_with fail
 go_returns
 exact born_alloc hb0 hbe rfl
set_option maxHeartbeats 1000000 in
theorem unnew_any (s:Sh) (c:Int) (b:Blk) (w:World):
  Calls Tryz.prog 200 #[.agg #[.int .i64 s.p, .int .i64 s.c, .int .i64 s.m], .int .i64 c, .agg #[.bool b.large, .int .i64 b.page, .int .i64 b.slot, .int .i64 b.k, .int .i64 b.pages]] w fun e w'=> Born w w' e (unCells s (unNew s c b)) 308:=by
 have hg:=fun W=> blkfits_any s c b W
 have hn:unCells s (unNew s c b)= #[.int .i64 s.p, .int .i64 s.c, .int .i64 s.m, .int .i64 c, .bool b.large, .int .i64 b.page, .int .i64 b.slot, .int .i64 b.k, .int .i64 b.pages, .int .i64 0, .bool (!b.fits s c)]:=rfl
 rw [hn]
 clear hn
 generalize b.fits s c=g at *
 obtain ⟨sp,sc,sm⟩:=s
 obtain ⟨blarge,bpage,bslot,bk,bpages⟩:=b
 dsimp only at hg ⊢
 replace hg:=Lib.hid hg
 have t0:=two_blocks w (.cells #[.int .i64 sp, .int .i64 sc, .int .i64 sm] 23) (.cells #[.bool blarge, .int .i64 bpage, .int .i64 bslot, .int .i64 bk, .int .i64 bpages] 263)
 obtain ⟨ta,tb,tz,hb0⟩:=t0
 go_enter Tryz.func200,Tryz.ntmps200
 go_upto_region 1 with fail
 generalize (w.alloc (.cells #[.int .i64 sp, .int .i64 sc, .int .i64 sm] 23)).alloc (.cells #[.bool blarge, .int .i64 bpage, .int .i64 bslot, .int .i64 bk, .int .i64 bpages] 263)=W at *
 obtain ⟨H,hH,hH'⟩:∃ H,Hid (H=w.heap.size)∧H=w.heap.size:=⟨_,Lib.hid rfl,rfl⟩
 simp only [← hH'] at ta tb tz ⊢
 have lH:H < W.heap.size:=by omega
 have lH1:H + 1 < W.heap.size:=by omega
 have ta:RowAt W H #[.int .i64 sp, .int .i64 sc, .int .i64 sm] 23:=ta
 have tb:RowAt W (H + 1) #[.bool blarge, .int .i64 bpage, .int .i64 bslot, .int .i64 bk, .int .i64 bpages] 263:=tb
 clear hH' tz
 have c0:W.cell? ⟨H,0, .none⟩=some (.int .i64 sp):=ta.cell 0
 have c1:W.cell? ⟨H,1, .none⟩=some (.int .i64 sc):=ta.cell 1
 have c2:W.cell? ⟨H,2, .none⟩=some (.int .i64 sm):=ta.cell 2
 have d0:W.cell? ⟨H + 1,0, .none⟩=some (.bool blarge):=tb.cell 0
 have d1:W.cell? ⟨H + 1,1, .none⟩=some (.int .i64 bpage):=tb.cell 1
 have d2:W.cell? ⟨H + 1,2, .none⟩=some (.int .i64 bslot):=tb.cell 2
 have d3:W.cell? ⟨H + 1,3, .none⟩=some (.int .i64 bk):=tb.cell 3
 have d4:W.cell? ⟨H + 1,4, .none⟩=some (.int .i64 bpages):=tb.cell 4
 refine wp_region_ext_tail 9 (by kernel_rfl) (by kernel_rfl) ?_
 dsimp only [List.take,List.drop]
 repeat (go_big_quiet_step ((first | (go_at_call 211;exact ext_of (hg.out _)) | fail)))
 refine wpQuiet_nil ?_
 rintro _ ⟨e',rfl⟩
 have hbe:=e'.below
 generalize e'.w=X at *
 change wpList _ _ _ _ _ X
 go_wp2_with fail
 go_returns
 exact born_alloc hb0 hbe rfl
theorem cmdone_any (q:Nat) (cs:Array Value) (v:Bool) (w:World) (h:RowAt w q cs 310) (hv:cs[9]?=some (.bool v)):Calls Tryz.prog 195 #[.pointer (some ⟨q,0, .none⟩)] w fun e w'=> e= .returned (.bool v)∧w'=w:=by
 have c:=(h.cell 9).trans hv
 clear h hv
 go_enter Tryz.func195,Tryz.ntmps195
 go_wp2_with fail
 go_returns
 exact ⟨rfl,rfl⟩
theorem cmdone_any_nil (w:World):Calls Tryz.prog 195 #[.pointer none] w fun e w'=> e= .returned (.bool false)∧w'=w:=by
 go_enter Tryz.func195,Tryz.ntmps195
 go_wp2_with fail
 go_returns
 exact ⟨rfl,rfl⟩
theorem undone_any (q:Nat) (cs:Array Value) (v:Bool) (w:World) (h:RowAt w q cs 308) (hv:cs[10]?=some (.bool v)):Calls Tryz.prog 194 #[.pointer (some ⟨q,0, .none⟩)] w fun e w'=> e= .returned (.bool v)∧w'=w:=by
 have c:=(h.cell 10).trans hv
 clear h hv
 go_enter Tryz.func194,Tryz.ntmps194
 go_wp2_with fail
 go_returns
 exact ⟨rfl,rfl⟩
theorem undone_any_nil (w:World):Calls Tryz.prog 194 #[.pointer none] w fun e w'=> e= .returned (.bool false)∧w'=w:=by
 go_enter Tryz.func194,Tryz.ntmps194
 go_wp2_with fail
 go_returns
 exact ⟨rfl,rfl⟩
set_option maxRecDepth 100000 in
set_option maxHeartbeats 2000000 in
theorem cmstep_any (q p b:Nat) (s:Sh) (t:Cm) (m:Mem) (w:World) (hq:RowAt w q (cmCells s t) 310) (hw:WdsAt w p b m) (hqp:q≠p) (hqb:q≠b) (hf:Fits s m) (ho:cmOk s t) (hs:m.st < 1000000000):
  Calls Tryz.prog 259 #[.pointer (some ⟨q,0, .none⟩), .pointer (some ⟨p,0, .none⟩)] w fun e w'=> Stepped q p b w w' e (cmCells s (cmStep s t m).1) 310 (cmStep s t m).2:=by
 have h0:=At3.start hq hw hqp hqb
 clear hq hw
 rcases Bool.eq_false_or_eq_true t.done with hd | hd
 ·have hr:cmStep s t m=(t,m):=by unfold cmStep;rw [if_pos hd]
  rw [hr]
  clear hr
  have c9:w.cell? ⟨q,9, .none⟩=some (.bool true):=by rw [← hd];exact h0.cell 9
  clear ho hd hf
  go_enter Tryz.func259,Tryz.ntmps259
  go_wp2_with fail
  go_returns
  exact h0.fin rfl rfl
 obtain ⟨hmay,hc,hpg,hlg,hsm⟩:=fits_iff.1 (ho hd)
 obtain ⟨r,hr⟩:∃ r,r=cmStep s t m:=⟨_,rfl⟩
 rw [← hr]
 unfold cmStep at hr
 rw [if_neg (by rw [hd];decide)] at hr
 rcases Bool.eq_false_or_eq_true t.b.large with hl | hl
 ·rw [if_pos hl] at hr
  obtain ⟨hpx,hph⟩:=hf.page hpg
  have hcpp:=fun Y=> planPage_any s.p s.c s.m t.b.page Y
  rw [hpx] at hcpp hr
  have hput:=fun Y=> putPage_any 3 t.b.pages 0 Y
  have hst:=fun Y (hY:WdsAt Y p b m)=> wstore_any p b m t.c (s.c + t.b.page) (pageV 3 t.b.pages 0) Y hY hph (pageV_u64 _ _ _) hs
  generalize s.c + t.b.page=pa at *
  generalize pageV 3 t.b.pages 0=pv at *
  obtain ⟨t2,ht2,ht2'⟩:∃ t2:Cm,Hid (t2= { t with done:=true })∧t2=_:=⟨_,Lib.hid rfl,rfl⟩
  rw [← ht2'] at hr
  clear ht2' hpx hph hlg hsm hpg hc hmay ho hf
  subst hr
  obtain ⟨tc,tb,tdone⟩:=t
  obtain ⟨blarge,bpage,bslot,bk,bpages⟩:=tb
  obtain ⟨sp,sc,sm⟩:=s
  dsimp only at hd hl hcpp hput hst ht2 ⊢
  subst hd hl
  replace hcpp:=Lib.hid hcpp
  replace hput:=Lib.hid hput
  replace hst:=Lib.hid hst
  have lq:=h0.lt
  have c0:w.cell? ⟨q,0, .none⟩=some (.int .i64 sp):=h0.cell 0
  have c1:w.cell? ⟨q,1, .none⟩=some (.int .i64 sc):=h0.cell 1
  have c2:w.cell? ⟨q,2, .none⟩=some (.int .i64 sm):=h0.cell 2
  have c3:w.cell? ⟨q,3, .none⟩=some (.int .i64 tc):=h0.cell 3
  have c4:w.cell? ⟨q,4, .none⟩=some (.bool true):=h0.cell 4
  have c5:w.cell? ⟨q,5, .none⟩=some (.int .i64 bpage):=h0.cell 5
  have c6:w.cell? ⟨q,6, .none⟩=some (.int .i64 bslot):=h0.cell 6
  have c7:w.cell? ⟨q,7, .none⟩=some (.int .i64 bk):=h0.cell 7
  have c8:w.cell? ⟨q,8, .none⟩=some (.int .i64 bpages):=h0.cell 8
  have c9:w.cell? ⟨q,9, .none⟩=some (.bool false):=h0.cell 9
  go_enter Tryz.func259,Tryz.ntmps259
  go_upto_region 2 with fail
  refine wp_region_ext_tail 22 (by kernel_rfl) (by kernel_rfl) ?_
  dsimp only [List.take,List.drop]
  repeat (go_big_quiet_step ((first | (go_at_call 136;exact ext_of (hcpp.out _)) | (go_at_call 167;exact ext_of (hput.out _)) | fail)))
  refine wpQuiet_nil ?_
  rintro _ ⟨e',rfl⟩
  have hZ:=h0.below e'.below
  generalize e'.w=Z at *
  change wpList _ _ _ _ _ Z
  clear c0 c1 c2 c3 c4 c5 c6 c7 c8 c9 h0 lq
  go_wp2_with (first | (go_at_call 262;(with_reducible refine (hst.out _ hZ.wds).mono ?_);rintro r w2 ⟨rfl,hw2,ho2⟩;have hA:=hZ.access hw2 ho2;have z9:w2.cell? ⟨q,9, .none⟩=some (.bool false):=hA.cell 9;have zf:=hA.free) | fail)
  go_returns
  exact (hA.set 9 _).fin (by rw [ht2.out];rfl) rfl
 ·rw [if_neg (by rw [hl];decide)] at hr
  have hsm:=hsm hl
  have hsr:=slots_range (k:=t.b.k) (by omega)
  obtain ⟨hsx,hsh⟩:=hf.slot hpg (i:=t.b.slot) (by omega)
  have hcsl:=fun Y=> planSlot_any s.p s.c s.m t.b.page t.b.slot Y
  rw [hsx] at hcsl hr
  have hput:=fun Y=> putSlot_any 3 t.b.k Y
  have htk:Hid (takenW t.b.k=slotV 3 t.b.k):=Lib.hid rfl
  rw [← htk.out] at hput
  have hst:=fun Y (hY:WdsAt Y p b m)=> wstore_any p b m t.c (s.c + s.p + t.b.page * 16 + t.b.slot) (takenW t.b.k) Y hY hsh (slotV_u64 _ _) hs
  generalize s.c + s.p + t.b.page * 16 + t.b.slot=sa at *
  generalize takenW t.b.k=tw at *
  obtain ⟨t2,ht2,ht2'⟩:∃ t2:Cm,Hid (t2= { t with done:=true })∧t2=_:=⟨_,Lib.hid rfl,rfl⟩
  rw [← ht2'] at hr
  clear ht2' hsx hsh hlg hsm hpg hc hmay ho hf hsr htk
  subst hr
  obtain ⟨tc,tb,tdone⟩:=t
  obtain ⟨blarge,bpage,bslot,bk,bpages⟩:=tb
  obtain ⟨sp,sc,sm⟩:=s
  dsimp only at hd hl hcsl hput hst ht2 ⊢
  subst hd hl
  replace hcsl:=Lib.hid hcsl
  replace hput:=Lib.hid hput
  replace hst:=Lib.hid hst
  have lq:=h0.lt
  have c0:w.cell? ⟨q,0, .none⟩=some (.int .i64 sp):=h0.cell 0
  have c1:w.cell? ⟨q,1, .none⟩=some (.int .i64 sc):=h0.cell 1
  have c2:w.cell? ⟨q,2, .none⟩=some (.int .i64 sm):=h0.cell 2
  have c3:w.cell? ⟨q,3, .none⟩=some (.int .i64 tc):=h0.cell 3
  have c4:w.cell? ⟨q,4, .none⟩=some (.bool false):=h0.cell 4
  have c5:w.cell? ⟨q,5, .none⟩=some (.int .i64 bpage):=h0.cell 5
  have c6:w.cell? ⟨q,6, .none⟩=some (.int .i64 bslot):=h0.cell 6
  have c7:w.cell? ⟨q,7, .none⟩=some (.int .i64 bk):=h0.cell 7
  have c8:w.cell? ⟨q,8, .none⟩=some (.int .i64 bpages):=h0.cell 8
  have c9:w.cell? ⟨q,9, .none⟩=some (.bool false):=h0.cell 9
  go_enter Tryz.func259,Tryz.ntmps259
  go_upto_region 3 with fail
  refine wp_region_ext_tail 27 (by kernel_rfl) (by kernel_rfl) ?_
  dsimp only [List.take,List.drop]
  repeat (go_big_quiet_step ((first | (go_at_call 138;exact ext_of (hcsl.out _)) | (go_at_call 169;exact ext_of (hput.out _)) | fail)))
  refine wpQuiet_nil ?_
  rintro _ ⟨e',rfl⟩
  have hZ:=h0.below e'.below
  generalize e'.w=Z at *
  change wpList _ _ _ _ _ Z
  clear c0 c1 c2 c3 c4 c5 c6 c7 c8 c9 h0 lq
  go_wp2_with (first | (go_at_call 262;(with_reducible refine (hst.out _ hZ.wds).mono ?_);rintro r w2 ⟨rfl,hw2,ho2⟩;have hA:=hZ.access hw2 ho2;have z9:w2.cell? ⟨q,9, .none⟩=some (.bool false):=hA.cell 9;have zf:=hA.free) | fail)
  go_returns
  exact (hA.set 9 _).fin (by rw [ht2.out];rfl) rfl
set_option maxRecDepth 100000 in
set_option maxHeartbeats 2000000 in
theorem unstep_any (q p b:Nat) (s:Sh) (t:Un) (m:Mem) (w:World) (hq:RowAt w q (unCells s t) 308) (hw:WdsAt w p b m) (hqp:q≠p) (hqb:q≠b) (hf:Fits s m) (ho:unOk s t) (hs:m.st < 1000000000):
  Calls Tryz.prog 290 #[.pointer (some ⟨q,0, .none⟩), .pointer (some ⟨p,0, .none⟩)] w fun e w'=> Stepped q p b w w' e (unCells s (unStep s t m).1) 308 (unStep s t m).2:=by
 have h0:=At3.start hq hw hqp hqb
 clear hq hw
 rcases Bool.eq_false_or_eq_true t.done with hd | hd
 ·have hr:unStep s t m=(t,m):=by unfold unStep;rw [if_pos hd]
  rw [hr]
  clear hr
  have c10:w.cell? ⟨q,10, .none⟩=some (.bool true):=by rw [← hd];exact h0.cell 10
  clear ho hd hf
  go_enter Tryz.func290,Tryz.ntmps290
  go_wp2_with fail
  go_returns
  exact h0.fin rfl rfl
 obtain ⟨hfit,hil⟩:=ho.cl hd
 obtain ⟨hmay,hc,hpg,hlg,hsm⟩:=fits_iff.1 hfit
 have hbd:=hf.bd
 obtain ⟨r,hr⟩:∃ r,r=unStep s t m:=⟨_,rfl⟩
 rw [← hr]
 unfold unStep at hr
 rw [if_neg (by rw [hd];decide)] at hr
 rcases Bool.eq_false_or_eq_true t.b.large with hl | hl
 ·rw [if_neg (by rw [hl];decide)] at hr
  have hlg:=hlg hl
  have hil:=hil hl
  have w1:IntKind.i64.wrap (t.b.pages - 1)=t.b.pages - 1:=IntWalk.i64_in _ ⟨by omega,by omega⟩
  have w2:IntKind.i64.wrap (t.i + 1)=t.i + 1:=IntWalk.i64_in _ ⟨by omega,by omega⟩
  have w3:IntKind.i64.wrap (t.b.page + t.i)=t.b.page + t.i:=IntWalk.i64_in _ ⟨by omega,by omega⟩
  have w4:IntKind.i64.wrap (t.b.page + t.i + 1)=t.b.page + t.i + 1:=IntWalk.i64_in _ ⟨by omega,by omega⟩
  by_cases hcs:t.i=t.b.pages - 1
  ·rw [if_pos hcs] at hr
   have hcb:(t.i==t.b.pages - 1)=true:=by simpa using hcs
   obtain ⟨hpx,hph⟩:=hf.page hpg
   have hcpp:=fun Y=> planPage_any s.p s.c s.m t.b.page Y
   rw [hpx] at hcpp hr
   have hst:=fun Y (hY:WdsAt Y p b m)=> wstore_any p b m t.c (s.c + t.b.page) 0 Y hY hph (by decide) hs
   generalize s.c + t.b.page=pa at *
   obtain ⟨t2,ht2,ht2'⟩:∃ t2:Un,Hid (t2= { t with done:=true })∧t2=_:=⟨_,Lib.hid rfl,rfl⟩
   rw [← ht2'] at hr
   clear ht2' hpx hph hlg hsm hpg hc hmay ho hf hil w2 w3 w4 hbd hfit hcs
   subst hr
   obtain ⟨tc,tb,ti,tdone⟩:=t
   obtain ⟨blarge,bpage,bslot,bk,bpages⟩:=tb
   obtain ⟨sp,sc,sm⟩:=s
   dsimp only at hd hl hcpp hst ht2 w1 hcb ⊢
   subst hd hl
   replace hcpp:=Lib.hid hcpp
   replace hst:=Lib.hid hst
   have lq:=h0.lt
   have c0:w.cell? ⟨q,0, .none⟩=some (.int .i64 sp):=h0.cell 0
   have c1:w.cell? ⟨q,1, .none⟩=some (.int .i64 sc):=h0.cell 1
   have c2:w.cell? ⟨q,2, .none⟩=some (.int .i64 sm):=h0.cell 2
   have c3:w.cell? ⟨q,3, .none⟩=some (.int .i64 tc):=h0.cell 3
   have c4:w.cell? ⟨q,4, .none⟩=some (.bool true):=h0.cell 4
   have c5:w.cell? ⟨q,5, .none⟩=some (.int .i64 bpage):=h0.cell 5
   have c6:w.cell? ⟨q,6, .none⟩=some (.int .i64 bslot):=h0.cell 6
   have c7:w.cell? ⟨q,7, .none⟩=some (.int .i64 bk):=h0.cell 7
   have c8:w.cell? ⟨q,8, .none⟩=some (.int .i64 bpages):=h0.cell 8
   have c9:w.cell? ⟨q,9, .none⟩=some (.int .i64 ti):=h0.cell 9
   have c10:w.cell? ⟨q,10, .none⟩=some (.bool false):=h0.cell 10
   go_enter Tryz.func290,Tryz.ntmps290
   go_upto_region 6 with fail
   refine wp_region_ext (by kernel_rfl) (by kernel_rfl) ?_
   repeat (go_big_quiet_step (fail))
   refine wpQuiet_nil ?_
   rintro _ ⟨e',rfl⟩
   have hX:=h0.below e'.below
   generalize e'.w=X at *
   clear c0 c1 c2 c3 c4 c5 c6 c7 c8 c9 c10 h0 lq
   have k0:X.cell? ⟨q,0, .none⟩=some (.int .i64 sp):=hX.cell 0
   have k1:X.cell? ⟨q,1, .none⟩=some (.int .i64 sc):=hX.cell 1
   have k2:X.cell? ⟨q,2, .none⟩=some (.int .i64 sm):=hX.cell 2
   have k3:X.cell? ⟨q,3, .none⟩=some (.int .i64 tc):=hX.cell 3
   have k4:X.cell? ⟨q,4, .none⟩=some (.bool true):=hX.cell 4
   have k5:X.cell? ⟨q,5, .none⟩=some (.int .i64 bpage):=hX.cell 5
   go_upto_region 7 with fail
   have lX:=hX.lt
   refine wp_region_ext_tail 15 (by kernel_rfl) (by kernel_rfl) ?_
   dsimp only [List.take,List.drop]
   repeat (go_big_quiet_step ((first | (go_at_call 136;exact ext_of (hcpp.out _)) | fail)))
   refine wpQuiet_nil ?_
   rintro _ ⟨e',rfl⟩
   have hZ:=hX.below e'.below
   generalize e'.w=Z at *
   change wpList _ _ _ _ _ Z
   clear k0 k1 k2 k3 k4 k5 hX lX
   go_wp2_with (first | (go_at_call 262;(with_reducible refine (hst.out _ hZ.wds).mono ?_);rintro r w2 ⟨rfl,hw2,ho2⟩;have hA:=hZ.access hw2 ho2;have z10:w2.cell? ⟨q,10, .none⟩=some (.bool false):=hA.cell 10;have zf:=hA.free) | fail)
   go_returns
   exact (hA.set 10 _).fin (by rw [ht2.out];rfl) rfl
  ·rw [if_neg hcs] at hr
   have hcb:(t.i==t.b.pages - 1)=false:=by simpa using hcs
   obtain ⟨hpx,hph⟩:=hf.page (x:=t.b.page + t.i + 1) (by omega)
   have hcpp:=fun Y=> planPage_any s.p s.c s.m (t.b.page + t.i + 1) Y
   rw [hpx] at hcpp hr
   have hst:=fun Y (hY:WdsAt Y p b m)=> wstore_any p b m t.c (s.c + (t.b.page + t.i + 1)) 0 Y hY hph (by decide) hs
   generalize s.c + (t.b.page + t.i + 1)=pa at *
   obtain ⟨t2,ht2,ht2'⟩:∃ t2:Un,Hid (t2= { t with i:=t.i + 1 })∧t2=_:=⟨_,Lib.hid rfl,rfl⟩
   rw [← ht2'] at hr
   clear ht2' hpx hph hlg hsm hpg hc hmay ho hf hil hbd hfit hcs
   subst hr
   obtain ⟨tc,tb,ti,tdone⟩:=t
   obtain ⟨blarge,bpage,bslot,bk,bpages⟩:=tb
   obtain ⟨sp,sc,sm⟩:=s
   dsimp only at hd hl hcpp hst ht2 w1 w2 w3 w4 hcb ⊢
   subst hd hl
   replace hcpp:=Lib.hid hcpp
   replace hst:=Lib.hid hst
   have lq:=h0.lt
   have c0:w.cell? ⟨q,0, .none⟩=some (.int .i64 sp):=h0.cell 0
   have c1:w.cell? ⟨q,1, .none⟩=some (.int .i64 sc):=h0.cell 1
   have c2:w.cell? ⟨q,2, .none⟩=some (.int .i64 sm):=h0.cell 2
   have c3:w.cell? ⟨q,3, .none⟩=some (.int .i64 tc):=h0.cell 3
   have c4:w.cell? ⟨q,4, .none⟩=some (.bool true):=h0.cell 4
   have c5:w.cell? ⟨q,5, .none⟩=some (.int .i64 bpage):=h0.cell 5
   have c6:w.cell? ⟨q,6, .none⟩=some (.int .i64 bslot):=h0.cell 6
   have c7:w.cell? ⟨q,7, .none⟩=some (.int .i64 bk):=h0.cell 7
   have c8:w.cell? ⟨q,8, .none⟩=some (.int .i64 bpages):=h0.cell 8
   have c9:w.cell? ⟨q,9, .none⟩=some (.int .i64 ti):=h0.cell 9
   have c10:w.cell? ⟨q,10, .none⟩=some (.bool false):=h0.cell 10
   go_enter Tryz.func290,Tryz.ntmps290
   go_upto_region 6 with fail
   refine wp_region_ext (by kernel_rfl) (by kernel_rfl) ?_
   repeat (go_big_quiet_step (fail))
   refine wpQuiet_nil ?_
   rintro _ ⟨e',rfl⟩
   have hX:=h0.below e'.below
   generalize e'.w=X at *
   clear c0 c1 c2 c3 c4 c5 c6 c7 c8 c9 c10 h0 lq
   have k0:X.cell? ⟨q,0, .none⟩=some (.int .i64 sp):=hX.cell 0
   have k1:X.cell? ⟨q,1, .none⟩=some (.int .i64 sc):=hX.cell 1
   have k2:X.cell? ⟨q,2, .none⟩=some (.int .i64 sm):=hX.cell 2
   have k3:X.cell? ⟨q,3, .none⟩=some (.int .i64 tc):=hX.cell 3
   have k4:X.cell? ⟨q,4, .none⟩=some (.bool true):=hX.cell 4
   have k5:X.cell? ⟨q,5, .none⟩=some (.int .i64 bpage):=hX.cell 5
   have k9:X.cell? ⟨q,9, .none⟩=some (.int .i64 ti):=hX.cell 9
   go_upto_region 0 with fail
   have lX:=hX.lt
   refine wp_region_ext_tail 21 (by kernel_rfl) (by kernel_rfl) ?_
   dsimp only [List.take,List.drop]
   repeat (go_big_quiet_step ((first | (go_at_call 136;exact ext_of (hcpp.out _)) | fail)))
   refine wpQuiet_nil ?_
   rintro _ ⟨e',rfl⟩
   have hZ:=hX.below e'.below
   generalize e'.w=Z at *
   change wpList _ _ _ _ _ Z
   clear k0 k1 k2 k3 k4 k5 k9 hX lX
   go_wp2_with (first | (go_at_call 262;(with_reducible refine (hst.out _ hZ.wds).mono ?_);rintro r w2 ⟨rfl,hw2,ho2⟩;have hA:=hZ.access hw2 ho2;have z9:w2.cell? ⟨q,9, .none⟩=some (.int .i64 ti):=hA.cell 9;have zf:=hA.free) | fail)
   go_returns
   exact (hA.set 9 _).fin (by rw [ht2.out];rfl) rfl
 ·rw [if_pos hl] at hr
  have hsm:=hsm hl
  have hsr:=slots_range (k:=t.b.k) (by omega)
  obtain ⟨hsx,hsh⟩:=hf.slot hpg (i:=t.b.slot) (by omega)
  have hcsl:=fun Y=> planSlot_any s.p s.c s.m t.b.page t.b.slot Y
  rw [hsx] at hcsl hr
  have hput:=fun Y=> putSlot_any 1 t.b.k Y
  have htk:Hid (openW t.b.k=slotV 1 t.b.k):=Lib.hid rfl
  rw [← htk.out] at hput
  have hst:=fun Y (hY:WdsAt Y p b m)=> wstore_any p b m t.c (s.c + s.p + t.b.page * 16 + t.b.slot) (openW t.b.k) Y hY hsh (slotV_u64 _ _) hs
  generalize s.c + s.p + t.b.page * 16 + t.b.slot=sa at *
  generalize openW t.b.k=tw at *
  obtain ⟨t2,ht2,ht2'⟩:∃ t2:Un,Hid (t2= { t with done:=true })∧t2=_:=⟨_,Lib.hid rfl,rfl⟩
  rw [← ht2'] at hr
  clear ht2' hsx hsh hlg hsm hpg hc hmay ho hf hsr htk hbd hfit hil
  subst hr
  obtain ⟨tc,tb,ti,tdone⟩:=t
  obtain ⟨blarge,bpage,bslot,bk,bpages⟩:=tb
  obtain ⟨sp,sc,sm⟩:=s
  dsimp only at hd hl hcsl hput hst ht2 ⊢
  subst hd hl
  replace hcsl:=Lib.hid hcsl
  replace hput:=Lib.hid hput
  replace hst:=Lib.hid hst
  have lq:=h0.lt
  have c0:w.cell? ⟨q,0, .none⟩=some (.int .i64 sp):=h0.cell 0
  have c1:w.cell? ⟨q,1, .none⟩=some (.int .i64 sc):=h0.cell 1
  have c2:w.cell? ⟨q,2, .none⟩=some (.int .i64 sm):=h0.cell 2
  have c3:w.cell? ⟨q,3, .none⟩=some (.int .i64 tc):=h0.cell 3
  have c4:w.cell? ⟨q,4, .none⟩=some (.bool false):=h0.cell 4
  have c5:w.cell? ⟨q,5, .none⟩=some (.int .i64 bpage):=h0.cell 5
  have c6:w.cell? ⟨q,6, .none⟩=some (.int .i64 bslot):=h0.cell 6
  have c7:w.cell? ⟨q,7, .none⟩=some (.int .i64 bk):=h0.cell 7
  have c8:w.cell? ⟨q,8, .none⟩=some (.int .i64 bpages):=h0.cell 8
  have c9:w.cell? ⟨q,9, .none⟩=some (.int .i64 ti):=h0.cell 9
  have c10:w.cell? ⟨q,10, .none⟩=some (.bool false):=h0.cell 10
  go_enter Tryz.func290,Tryz.ntmps290
  go_upto_region 4 with fail
  refine wp_region_ext_tail 27 (by kernel_rfl) (by kernel_rfl) ?_
  dsimp only [List.take,List.drop]
  repeat (go_big_quiet_step ((first | (go_at_call 138;exact ext_of (hcsl.out _)) | (go_at_call 169;exact ext_of (hput.out _)) | fail)))
  refine wpQuiet_nil ?_
  rintro _ ⟨e',rfl⟩
  have hZ:=h0.below e'.below
  generalize e'.w=Z at *
  change wpList _ _ _ _ _ Z
  clear c0 c1 c2 c3 c4 c5 c6 c7 c8 c9 c10 h0 lq
  go_wp2_with (first | (go_at_call 262;(with_reducible refine (hst.out _ hZ.wds).mono ?_);rintro r w2 ⟨rfl,hw2,ho2⟩;have hA:=hZ.access hw2 ho2;have z10:w2.cell? ⟨q,10, .none⟩=some (.bool false):=hA.cell 10;have zf:=hA.free) | fail)
  go_returns
  exact (hA.set 10 _).fin (by rw [ht2.out];rfl) rfl
end Go.Proofs.YtampacmmhhilaaaGreat

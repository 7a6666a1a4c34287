/- Blocks, Committers, Undoers in memory. -/
import Derived.Test.YthgekdlegbmehaaGreatBq15

set_option linter.all false
set_option maxHeartbeats 2000000
set_option maxRecDepth 100000
namespace Go.Proofs.YthgekdlegbmehaaGreat

open Go.RowKit

attribute [local go_sem ↓] Go.wp_at_zero Go.wp_at_succ

def zg0 (b:Blk):Array Value:= #[.bool b.large,.int .i64 b.page,.int .i64 b.slot,.int .i64 b.k,.int .i64 b.pages]
theorem zjy (b:Blk) (w:World) (hp:0<=b.page/\b.page<=64) (hs:b.large=false->0<=b.slot/\b.slot<=16):
  Calls Tryz.prog 44 #[.agg #[.bool b.large,.int .i64 b.page,.int .i64 b.slot,.int .i64 b.k,.int .i64 b.pages]] w fun e w'=> e= .returned (.int .i64 b.at')/\Below w.heap.size w w':=by
 unfold Blk.at'
 obtain ⟨blarge,bpage,bslot,bk,bpages⟩:=b
 dsimp only at hp hs ⊢
 obtain ⟨p1,p2⟩:=hp
 cases blarge
 ·have had:=hd' (fun Y=> zug bpage bslot bk Y ⟨p1,p2⟩ (hs rfl))
  clear hs
  simp only [Bool.false_eq_true,if_false]
  generalize bpage * 64 + bslot * zbj bk=a at *
  go_enter Tryz.func44,Tryz.ntmps44
  go_wp2_with (first | (go_at_call 56;(with_reducible refine (had.out _).mono ?_);rintro r w1 ⟨rfl,rfl⟩) | fail)
  go_returns
  exact ⟨rfl,br.alloc lr _⟩
 ·have w1:=wrp (bpage * 64)
  simp only [if_true]
  clear hs
  go_enter Tryz.func44,Tryz.ntmps44
  go_wp2_with fail
  go_returns
  exact ⟨rfl,br.alloc lr _⟩
theorem zih (b:Blk) (w:World) (hp:0<=b.pages/\b.pages<=64):
  Calls Tryz.prog 45 #[.agg #[.bool b.large,.int .i64 b.page,.int .i64 b.slot,.int .i64 b.k,.int .i64 b.pages]] w fun e w'=> e= .returned (.int .i64 b.len)/\Below w.heap.size w w':=by
 unfold Blk.len
 obtain ⟨blarge,bpage,bslot,bk,bpages⟩:=b
 dsimp only at hp ⊢
 obtain ⟨p1,p2⟩:=hp
 cases blarge
 ·have had:=hd' (fun Y=> zgq bk Y)
  simp only [Bool.false_eq_true,if_false]
  generalize zbj bk=a at *
  go_enter Tryz.func45,Tryz.ntmps45
  go_wp2_with (first | (go_at_call 50;(with_reducible refine (had.out _).mono ?_);rintro r w1 ⟨rfl,rfl⟩) | fail)
  go_returns
  exact ⟨rfl,br.alloc lr _⟩
 ·have w1:=wrp (bpages * 64)
  simp only [if_true]
  go_enter Tryz.func45,Tryz.ntmps45
  go_wp2_with fail
  go_returns
  exact ⟨rfl,br.alloc lr _⟩
theorem zmx (s:Sh) (c:Int) (b:Blk) (w:World):
  Calls Tryz.prog 78 #[.agg #[.bool b.large,.int .i64 b.page,.int .i64 b.slot,.int .i64 b.k,.int .i64 b.pages],.agg #[.int .i64 s.p,.int .i64 s.c,.int .i64 s.m],.int .i64 c] w fun e w'=> e= .returned (.bool (b.fits s c))/\Below w.heap.size w w':=by
 have hg:=fun W=> zau s.p s.c s.m c W
 have hp:=fun W=> planPage_any s.p s.c s.m b.page W
 have hsl:=fun W=> slots_any b.k W
 have hpi:0<=zak s.p s.c s.m b.page->(0<=b.page/\b.page < 64)/\0 < s.p/\s.p<=64:=fun h=> by
  have h1:=zcs h
  have h2:=zar.1 h1.1
  omega
 obtain ⟨g,hgd,hgd'⟩:=hidv (b.fits s c)
 rw [<- hgd']
 clear hgd'
 have hgd2:Hid (g=if zae s.p s.c s.m c < 0\/zak s.p s.c s.m b.page < 0 then false else if b.large=true then decide (1<=b.pages) && decide (b.pages<=8) && decide (b.pages<=s.p - b.page) else decide (0<=b.slot) && decide (b.slot < zah b.k)):=hgd
 clear hgd
 generalize zae s.p s.c s.m c=sx at *
 generalize zak s.p s.c s.m b.page=px at *
 generalize zah b.k=sv at *
 obtain ⟨sp,sc,sm⟩:=s
 obtain ⟨blarge,bpage,bslot,bk,bpages⟩:=b
 dsimp only at hg hp hpi hsl hgd2 ⊢
 replace hg:=hd' hg
 replace hp:=hd' hp
 replace hsl:=hd' hsl
 have t0:=zc5 w (.cells #[.bool blarge,.int .i64 bpage,.int .i64 bslot,.int .i64 bk,.int .i64 bpages] 101) (.cells #[.int .i64 sp,.int .i64 sc,.int .i64 sm] 24)
 obtain ⟨ta,tb,tz,hb0⟩:=t0
 go_enter Tryz.func78,Tryz.ntmps78
 go_upto_region 1 with fail
 generalize (w.alloc (.cells #[.bool blarge,.int .i64 bpage,.int .i64 bslot,.int .i64 bk,.int .i64 bpages] 101)).alloc (.cells #[.int .i64 sp,.int .i64 sc,.int .i64 sm] 24)=W at *
 obtain ⟨H,hH,hH'⟩:=hidv w.heap.size
 simp only [<- hH'] at ta tb tz ⊢
 have lH:H < W.heap.size:=by omega
 have lH1:H + 1 < W.heap.size:=by omega
 have ta:zaa W H #[.bool blarge,.int .i64 bpage,.int .i64 bslot,.int .i64 bk,.int .i64 bpages] 101:=ta
 have tb:zaa W (H + 1) #[.int .i64 sp,.int .i64 sc,.int .i64 sm] 24:=tb
 clear hH' tz
 obtain ⟨c0,c1,c2⟩:=ci3 sp sc sm tb.cell
 rcases Int.lt_or_le sx 0 with h1 | h1
 ·replace hgd2:=hd' (hgd2.out.trans (if_pos (.inl h1)))
  go_wp2_with (first
   | (go_at_call 14;(with_reducible refine (hg.out _).mono ?_);rintro r w1 ⟨rfl,hb1⟩)
   | fail)
  go_returns
  exact ⟨by rw [hgd2.out];rfl,hb0.trans (hb1.mono hb0.size)⟩
 have q1:decide (sx < 0)=false:=decide_eq_false (Int.not_lt.2 h1)
 rcases Int.lt_or_le px 0 with h2 | h2
 ·replace hgd2:=hd' (hgd2.out.trans (if_pos (.inr h2)))
  go_wp2_with (first
   | (go_at_call 14;(with_reducible refine (hg.out _).mono ?_);rintro r w1 ⟨rfl,hb1⟩;have ta1:=ta.below hb1;have tb1:=tb.below hb1;have d0:=ci sp (tb1.cell 0);have d1:=ci sc (tb1.cell 1);have d2:=ci sm (tb1.cell 2);have e1:=ci bpage (ta1.cell 1))
   | (go_at_call 59;(with_reducible refine (hp.out _).mono ?_);rintro r w2 ⟨rfl,hb2⟩)
   | fail)
  go_returns
  exact ⟨by rw [hgd2.out];rfl,hb0.trans ((zab hb1 hb2).mono hb0.size)⟩
 obtain ⟨⟨p1,p2⟩,p4,p3⟩:=hpi h2
 replace hgd2:=hd' (hgd2.out.trans (if_neg (by omega)))
 have q2:decide (px < 0)=false:=decide_eq_false (Int.not_lt.2 h2)
 have w1:=wrp (sp - bpage)
 clear hpi
 rcases Bool.eq_false_or_eq_true blarge with hl | hl
 ·replace hgd2:=hd' (hgd2.out.trans (if_pos hl))
  subst hl
  have hcs:(bpages < 1)\/(1<=bpages/\8 < bpages)\/(1<=bpages/\bpages<=8/\sp - bpage < bpages)\/(1<=bpages/\bpages<=8/\bpages<=sp - bpage):=by omega
  rcases hcs with h3 | ⟨h3,h4⟩ | ⟨h3,h4,h5⟩ | ⟨h3,h4,h5⟩
  ·replace hgd2:=hd' (hgd2.out.trans (by rw [decide_eq_false (Int.not_le.2 h3)];rfl:_=false))
   go_wp2_with (first
   | (go_at_call 14;(with_reducible refine (hg.out _).mono ?_);rintro r w1 ⟨rfl,hb1⟩;have ta1:=ta.below hb1;have tb1:=tb.below hb1;have d0:=ci sp (tb1.cell 0);have d1:=ci sc (tb1.cell 1);have d2:=ci sm (tb1.cell 2);have e1:=ci bpage (ta1.cell 1))
   | (go_at_call 59;(with_reducible refine (hp.out _).mono ?_);rintro r w2 ⟨rfl,hb2⟩;have ta2:=ta1.below hb2;have tb2:=tb1.below hb2;have k0:=ci sp (tb2.cell 0);have l0:=ce (.bool true) (ta2.cell 0);have l1:=ci bpage (ta2.cell 1);have l2:=ci bslot (ta2.cell 2);have l3:=ci bk (ta2.cell 3);have l4:=ci bpages (ta2.cell 4))
   | fail)
   go_returns
   exact ⟨by rw [hgd2.out];rfl,hb0.trans ((zab hb1 hb2).mono hb0.size)⟩
  ·replace hgd2:=hd' (hgd2.out.trans (by rw [decide_eq_false (Int.not_le.2 h4),Bool.and_false,Bool.false_and]:_=false))
   go_wp2_with (first
   | (go_at_call 14;(with_reducible refine (hg.out _).mono ?_);rintro r w1 ⟨rfl,hb1⟩;have ta1:=ta.below hb1;have tb1:=tb.below hb1;have d0:=ci sp (tb1.cell 0);have d1:=ci sc (tb1.cell 1);have d2:=ci sm (tb1.cell 2);have e1:=ci bpage (ta1.cell 1))
   | (go_at_call 59;(with_reducible refine (hp.out _).mono ?_);rintro r w2 ⟨rfl,hb2⟩;have ta2:=ta1.below hb2;have tb2:=tb1.below hb2;have k0:=ci sp (tb2.cell 0);have l0:=ce (.bool true) (ta2.cell 0);have l1:=ci bpage (ta2.cell 1);have l2:=ci bslot (ta2.cell 2);have l3:=ci bk (ta2.cell 3);have l4:=ci bpages (ta2.cell 4))
   | fail)
   go_returns
   exact ⟨by rw [hgd2.out];rfl,hb0.trans ((zab hb1 hb2).mono hb0.size)⟩
  ·replace hgd2:=hd' (hgd2.out.trans (by rw [decide_eq_false (Int.not_le.2 h5),Bool.and_false]:_=false))
   have q5:decide (bpages<=sp - bpage)=false:=decide_eq_false (Int.not_le.2 h5)
   go_wp2_with (first
   | (go_at_call 14;(with_reducible refine (hg.out _).mono ?_);rintro r w1 ⟨rfl,hb1⟩;have ta1:=ta.below hb1;have tb1:=tb.below hb1;have d0:=ci sp (tb1.cell 0);have d1:=ci sc (tb1.cell 1);have d2:=ci sm (tb1.cell 2);have e1:=ci bpage (ta1.cell 1))
   | (go_at_call 59;(with_reducible refine (hp.out _).mono ?_);rintro r w2 ⟨rfl,hb2⟩;have ta2:=ta1.below hb2;have tb2:=tb1.below hb2;have k0:=ci sp (tb2.cell 0);have l0:=ce (.bool true) (ta2.cell 0);have l1:=ci bpage (ta2.cell 1);have l2:=ci bslot (ta2.cell 2);have l3:=ci bk (ta2.cell 3);have l4:=ci bpages (ta2.cell 4))
   | fail)
   go_returns
   exact ⟨by rw [hgd2.out];rfl,hb0.trans ((zab hb1 hb2).mono hb0.size)⟩
  ·replace hgd2:=hd' (hgd2.out.trans (by rw [decide_eq_true h3,decide_eq_true h4,decide_eq_true h5];rfl:_=true))
   have q5:decide (bpages<=sp - bpage)=true:=decide_eq_true h5
   go_wp2_with (first
   | (go_at_call 14;(with_reducible refine (hg.out _).mono ?_);rintro r w1 ⟨rfl,hb1⟩;have ta1:=ta.below hb1;have tb1:=tb.below hb1;have d0:=ci sp (tb1.cell 0);have d1:=ci sc (tb1.cell 1);have d2:=ci sm (tb1.cell 2);have e1:=ci bpage (ta1.cell 1))
   | (go_at_call 59;(with_reducible refine (hp.out _).mono ?_);rintro r w2 ⟨rfl,hb2⟩;have ta2:=ta1.below hb2;have tb2:=tb1.below hb2;have k0:=ci sp (tb2.cell 0);have l0:=ce (.bool true) (ta2.cell 0);have l1:=ci bpage (ta2.cell 1);have l2:=ci bslot (ta2.cell 2);have l3:=ci bk (ta2.cell 3);have l4:=ci bpages (ta2.cell 4))
   | fail)
   go_returns
   exact ⟨by rw [hgd2.out];rfl,hb0.trans ((zab hb1 hb2).mono hb0.size)⟩
 ·replace hgd2:=hd' (hgd2.out.trans (if_neg (by rw [hl];decide)))
  subst hl
  have hcs:(bslot < 0)\/(0<=bslot/\sv<=bslot)\/(0<=bslot/\bslot < sv):=by omega
  rcases hcs with h3 | ⟨h3,h4⟩ | ⟨h3,h4⟩
  ·replace hgd2:=hd' (hgd2.out.trans (by rw [decide_eq_false (Int.not_le.2 h3)];rfl:_=false))
   have q3:decide (0<=bslot)=false:=decide_eq_false (Int.not_le.2 h3)
   go_upto_region 5 with (first
   | (go_at_call 14;(with_reducible refine (hg.out _).mono ?_);rintro r w1 ⟨rfl,hb1⟩;have ta1:=ta.below hb1;have tb1:=tb.below hb1;have d0:=ci sp (tb1.cell 0);have d1:=ci sc (tb1.cell 1);have d2:=ci sm (tb1.cell 2);have e1:=ci bpage (ta1.cell 1))
   | (go_at_call 59;(with_reducible refine (hp.out _).mono ?_);rintro r w2 ⟨rfl,hb2⟩;have ta2:=ta1.below hb2;have tb2:=tb1.below hb2;have k0:=ci sp (tb2.cell 0);have l0:=ce (.bool false) (ta2.cell 0);have l1:=ci bpage (ta2.cell 1);have l2:=ci bslot (ta2.cell 2);have l3:=ci bk (ta2.cell 3);have l4:=ci bpages (ta2.cell 4))
   | fail)
   have lH2:H < w2.heap.size:=ta2.lt
   refine zaj (by kernel_rfl) (by kernel_rfl) ?_
   repeat (go_big_quiet_step ((first | (go_at_call 58;exact zdx ((hsl.out _).mono fun _ _ h=> ⟨h.1,h.2⟩)) | fail)))
   refine wpQuiet_nil ?_
   rintro _ ⟨e',rfl⟩
   have hb3:=e'.below
   generalize e'.w=X at *
   go_wp2_with fail
   go_returns
   exact ⟨by rw [hgd2.out];rfl,hb0.trans ((zab (zab hb1 hb2) hb3).mono hb0.size)⟩
  ·replace hgd2:=hd' (hgd2.out.trans (by rw [decide_eq_false (Int.not_lt.2 h4),Bool.and_false]:_=false))
   have q3:decide (0<=bslot)=true:=decide_eq_true h3
   have q4:decide (bslot < sv)=false:=decide_eq_false (Int.not_lt.2 h4)
   go_upto_region 5 with (first
   | (go_at_call 14;(with_reducible refine (hg.out _).mono ?_);rintro r w1 ⟨rfl,hb1⟩;have ta1:=ta.below hb1;have tb1:=tb.below hb1;have d0:=ci sp (tb1.cell 0);have d1:=ci sc (tb1.cell 1);have d2:=ci sm (tb1.cell 2);have e1:=ci bpage (ta1.cell 1))
   | (go_at_call 59;(with_reducible refine (hp.out _).mono ?_);rintro r w2 ⟨rfl,hb2⟩;have ta2:=ta1.below hb2;have tb2:=tb1.below hb2;have k0:=ci sp (tb2.cell 0);have l0:=ce (.bool false) (ta2.cell 0);have l1:=ci bpage (ta2.cell 1);have l2:=ci bslot (ta2.cell 2);have l3:=ci bk (ta2.cell 3);have l4:=ci bpages (ta2.cell 4))
   | fail)
   have lH2:H < w2.heap.size:=ta2.lt
   refine zaj (by kernel_rfl) (by kernel_rfl) ?_
   repeat (go_big_quiet_step ((first | (go_at_call 58;exact zdx ((hsl.out _).mono fun _ _ h=> ⟨h.1,h.2⟩)) | fail)))
   refine wpQuiet_nil ?_
   rintro _ ⟨e',rfl⟩
   have hb3:=e'.below
   generalize e'.w=X at *
   go_wp2_with fail
   go_returns
   exact ⟨by rw [hgd2.out];rfl,hb0.trans ((zab (zab hb1 hb2) hb3).mono hb0.size)⟩
  ·replace hgd2:=hd' (hgd2.out.trans (by rw [decide_eq_true h3,decide_eq_true h4];rfl:_=true))
   have q3:decide (0<=bslot)=true:=decide_eq_true h3
   have q4:decide (bslot < sv)=true:=decide_eq_true h4
   go_upto_region 5 with (first
   | (go_at_call 14;(with_reducible refine (hg.out _).mono ?_);rintro r w1 ⟨rfl,hb1⟩;have ta1:=ta.below hb1;have tb1:=tb.below hb1;have d0:=ci sp (tb1.cell 0);have d1:=ci sc (tb1.cell 1);have d2:=ci sm (tb1.cell 2);have e1:=ci bpage (ta1.cell 1))
   | (go_at_call 59;(with_reducible refine (hp.out _).mono ?_);rintro r w2 ⟨rfl,hb2⟩;have ta2:=ta1.below hb2;have tb2:=tb1.below hb2;have k0:=ci sp (tb2.cell 0);have l0:=ce (.bool false) (ta2.cell 0);have l1:=ci bpage (ta2.cell 1);have l2:=ci bslot (ta2.cell 2);have l3:=ci bk (ta2.cell 3);have l4:=ci bpages (ta2.cell 4))
   | fail)
   have lH2:H < w2.heap.size:=ta2.lt
   refine zaj (by kernel_rfl) (by kernel_rfl) ?_
   repeat (go_big_quiet_step ((first | (go_at_call 58;exact zdx ((hsl.out _).mono fun _ _ h=> ⟨h.1,h.2⟩)) | fail)))
   refine wpQuiet_nil ?_
   rintro _ ⟨e',rfl⟩
   have hb3:=e'.below
   generalize e'.w=X at *
   go_wp2_with fail
   go_returns
   exact ⟨by rw [hgd2.out];rfl,hb0.trans ((zab (zab hb1 hb2) hb3).mono hb0.size)⟩
def ze3 (s:Sh) (t:Cm):Array Value:= #[.int .i64 s.p,.int .i64 s.c,.int .i64 s.m,.int .i64 t.c,.bool t.b.large,.int .i64 t.b.page,.int .i64 t.b.slot,.int .i64 t.b.k,.int .i64 t.b.pages,.bool t.done]
def zhm (s:Sh) (t:Un):Array Value:= #[.int .i64 s.p,.int .i64 s.c,.int .i64 s.m,.int .i64 t.c,.bool t.b.large,.int .i64 t.b.page,.int .i64 t.b.slot,.int .i64 t.b.k,.int .i64 t.b.pages,.int .i64 t.i,.bool t.done]
theorem ztm (s:Sh) (c:Int) (b:Blk) (w:World):
  Calls Tryz.prog 68 #[.agg #[.int .i64 s.p,.int .i64 s.c,.int .i64 s.m],.int .i64 c,.agg #[.bool b.large,.int .i64 b.page,.int .i64 b.slot,.int .i64 b.k,.int .i64 b.pages]] w fun e w'=> Born w w' e (ze3 s (zc4 s c b)) 155:=by
 have hg:=fun W=> zmx s c b W
 have hn:ze3 s (zc4 s c b)= #[.int .i64 s.p,.int .i64 s.c,.int .i64 s.m,.int .i64 c,.bool b.large,.int .i64 b.page,.int .i64 b.slot,.int .i64 b.k,.int .i64 b.pages,.bool (!b.fits s c)]:=rfl
 rw [hn]
 clear hn
 generalize b.fits s c=g at *
 obtain ⟨sp,sc,sm⟩:=s
 obtain ⟨blarge,bpage,bslot,bk,bpages⟩:=b
 dsimp only at hg ⊢
 replace hg:=hd' hg
 have t0:=zc5 w (.cells #[.int .i64 sp,.int .i64 sc,.int .i64 sm] 24) (.cells #[.bool blarge,.int .i64 bpage,.int .i64 bslot,.int .i64 bk,.int .i64 bpages] 101)
 obtain ⟨ta,tb,tz,hb0⟩:=t0
 go_enter Tryz.func68,Tryz.ntmps68
 go_upto_region 1 with fail
 generalize (w.alloc (.cells #[.int .i64 sp,.int .i64 sc,.int .i64 sm] 24)).alloc (.cells #[.bool blarge,.int .i64 bpage,.int .i64 bslot,.int .i64 bk,.int .i64 bpages] 101)=W at *
 obtain ⟨H,hH,hH'⟩:=hidv w.heap.size
 simp only [<- hH'] at ta tb tz ⊢
 have lH:H < W.heap.size:=by omega
 have lH1:H + 1 < W.heap.size:=by omega
 have ta:zaa W H #[.int .i64 sp,.int .i64 sc,.int .i64 sm] 24:=ta
 have tb:zaa W (H + 1) #[.bool blarge,.int .i64 bpage,.int .i64 bslot,.int .i64 bk,.int .i64 bpages] 101:=tb
 clear hH' tz
 obtain ⟨c0,c1,c2⟩:=ci3 sp sc sm ta.cell
 have d0:=ce (.bool blarge) (tb.cell 0)
 have d1:=ci bpage (tb.cell 1)
 have d2:=ci bslot (tb.cell 2)
 have d3:=ci bk (tb.cell 3)
 have d4:=ci bpages (tb.cell 4)
 refine zad 9 (by kernel_rfl) (by kernel_rfl) ?_
 dsimp only [List.take,List.drop]
 repeat (go_big_quiet_step ((first | (go_at_call 78;exact zam (hg.out _)) | fail)))
 refine wpQuiet_nil ?_
 rintro _ ⟨e',rfl⟩
 have hbe:=e'.below
 generalize e'.w=X at *
 change wpList _ _ _ _ _ X
 go_wp2_with fail
 go_returns
 exact za6 hb0 hbe rfl
theorem z3q (s:Sh) (c:Int) (b:Blk) (w:World):
  Calls Tryz.prog 69 #[.agg #[.int .i64 s.p,.int .i64 s.c,.int .i64 s.m],.int .i64 c,.agg #[.bool b.large,.int .i64 b.page,.int .i64 b.slot,.int .i64 b.k,.int .i64 b.pages]] w fun e w'=> Born w w' e (zhm s (zf1 s c b)) 153:=by
 have hg:=fun W=> zmx s c b W
 have hn:zhm s (zf1 s c b)= #[.int .i64 s.p,.int .i64 s.c,.int .i64 s.m,.int .i64 c,.bool b.large,.int .i64 b.page,.int .i64 b.slot,.int .i64 b.k,.int .i64 b.pages,.int .i64 0,.bool (!b.fits s c)]:=rfl
 rw [hn]
 clear hn
 generalize b.fits s c=g at *
 obtain ⟨sp,sc,sm⟩:=s
 obtain ⟨blarge,bpage,bslot,bk,bpages⟩:=b
 dsimp only at hg ⊢
 replace hg:=hd' hg
 have t0:=zc5 w (.cells #[.int .i64 sp,.int .i64 sc,.int .i64 sm] 24) (.cells #[.bool blarge,.int .i64 bpage,.int .i64 bslot,.int .i64 bk,.int .i64 bpages] 101)
 obtain ⟨ta,tb,tz,hb0⟩:=t0
 go_enter Tryz.func69,Tryz.ntmps69
 go_upto_region 1 with fail
 generalize (w.alloc (.cells #[.int .i64 sp,.int .i64 sc,.int .i64 sm] 24)).alloc (.cells #[.bool blarge,.int .i64 bpage,.int .i64 bslot,.int .i64 bk,.int .i64 bpages] 101)=W at *
 obtain ⟨H,hH,hH'⟩:=hidv w.heap.size
 simp only [<- hH'] at ta tb tz ⊢
 have lH:H < W.heap.size:=by omega
 have lH1:H + 1 < W.heap.size:=by omega
 have ta:zaa W H #[.int .i64 sp,.int .i64 sc,.int .i64 sm] 24:=ta
 have tb:zaa W (H + 1) #[.bool blarge,.int .i64 bpage,.int .i64 bslot,.int .i64 bk,.int .i64 bpages] 101:=tb
 clear hH' tz
 obtain ⟨c0,c1,c2⟩:=ci3 sp sc sm ta.cell
 have d0:=ce (.bool blarge) (tb.cell 0)
 have d1:=ci bpage (tb.cell 1)
 have d2:=ci bslot (tb.cell 2)
 have d3:=ci bk (tb.cell 3)
 have d4:=ci bpages (tb.cell 4)
 refine zad 9 (by kernel_rfl) (by kernel_rfl) ?_
 dsimp only [List.take,List.drop]
 repeat (go_big_quiet_step ((first | (go_at_call 78;exact zam (hg.out _)) | fail)))
 refine wpQuiet_nil ?_
 rintro _ ⟨e',rfl⟩
 have hbe:=e'.below
 generalize e'.w=X at *
 change wpList _ _ _ _ _ X
 go_wp2_with fail
 go_returns
 exact za6 hb0 hbe rfl
theorem zo9 (q:Nat) (cs:Array Value) (v:Bool) (w:World) (h:zaa w q cs 155) (hv:cs[9]?=some (.bool v)):Calls Tryz.prog 64 #[.pointer (some ⟨q,0,.none⟩)] w fun e w'=> e= .returned (.bool v)/\w'=w:=by
 have c:=(h.cell 9).trans hv
 clear h hv
 go_enter Tryz.func64,Tryz.ntmps64
 go_wp2_with fail
 go_returns
 exact ⟨rfl,rfl⟩
theorem zi5 (w:World):Calls Tryz.prog 64 #[.pointer none] w fun e w'=> e= .returned (.bool false)/\w'=w:=by
 go_enter Tryz.func64,Tryz.ntmps64
 go_wp2_with fail
 go_returns
 exact ⟨rfl,rfl⟩
theorem zx6 (q:Nat) (cs:Array Value) (v:Bool) (w:World) (h:zaa w q cs 153) (hv:cs[10]?=some (.bool v)):Calls Tryz.prog 63 #[.pointer (some ⟨q,0,.none⟩)] w fun e w'=> e= .returned (.bool v)/\w'=w:=by
 have c:=(h.cell 10).trans hv
 clear h hv
 go_enter Tryz.func63,Tryz.ntmps63
 go_wp2_with fail
 go_returns
 exact ⟨rfl,rfl⟩
theorem zof (w:World):Calls Tryz.prog 63 #[.pointer none] w fun e w'=> e= .returned (.bool false)/\w'=w:=by
 go_enter Tryz.func63,Tryz.ntmps63
 go_wp2_with fail
 go_returns
 exact ⟨rfl,rfl⟩
theorem zou (q p b:Nat) (s:Sh) (t:Cm) (m:Mem) (w:World) (hq:zaa w q (ze3 s t) 155) (hw:zaq w p b m) (hqp:q≠p) (hqb:q≠b) (hf:Fits s m) (ho:cmOk s t) (hs:m.st < 1000000000):
  Calls Tryz.prog 115 #[.pointer (some ⟨q,0,.none⟩),.pointer (some ⟨p,0,.none⟩)] w fun e w'=> Stepped q p b w w' e (ze3 s (zb3 s t m).1) 155 (zb3 s t m).2:=by
 have h0:=At3.start hq hw hqp hqb
 clear hq hw
 rcases Bool.eq_false_or_eq_true t.done with hd | hd
 ·have hr:zb3 s t m=(t,m):=by unfold zb3;rw [if_pos hd]
  rw [hr]
  clear hr
  have c9:w.cell? ⟨q,9,.none⟩=some (.bool true):=by rw [<- hd];exact h0.cell 9
  clear ho hd hf
  go_enter Tryz.func115,Tryz.ntmps115
  go_wp2_with fail
  go_returns
  exact h0.fin rfl rfl
 obtain ⟨hmay,hc,hpg,hlg,hsm⟩:=zdi.1 (ho hd)
 obtain ⟨r,hr⟩:∃ r,r=zb3 s t m:=⟨_,rfl⟩
 rw [<- hr]
 unfold zb3 at hr
 rw [if_neg (by rw [hd];decide)] at hr
 rcases Bool.eq_false_or_eq_true t.b.large with hl | hl
 ·rw [if_pos hl] at hr
  obtain ⟨hpx,hph⟩:=hf.page hpg
  have hcpp:=fun Y=> planPage_any s.p s.c s.m t.b.page Y
  rw [hpx] at hcpp hr
  have hput:=fun Y=> zcd 3 t.b.pages 0 Y
  have hst:=fun Y (hY:zaq Y p b m)=> zba p b m t.c (s.c + t.b.page) (zb8 3 t.b.pages 0) Y hY hph (zc0 _ _ _) hs
  generalize s.c + t.b.page=pa at *
  generalize zb8 3 t.b.pages 0=pv at *
  obtain ⟨t2,ht2,ht2'⟩:∃ t2:Cm,Hid (t2= { t with done:=true })/\t2=_:=⟨_,hd' rfl,rfl⟩
  rw [<- ht2'] at hr
  clear ht2' hpx hph hlg hsm hpg hc hmay ho hf
  subst hr
  obtain ⟨tc,tb,tdone⟩:=t
  obtain ⟨blarge,bpage,bslot,bk,bpages⟩:=tb
  obtain ⟨sp,sc,sm⟩:=s
  dsimp only at hd hl hcpp hput hst ht2 ⊢
  subst hd hl
  replace hcpp:=hd' hcpp
  replace hput:=hd' hput
  replace hst:=hd' hst
  have lq:=h0.lt
  obtain ⟨c0,c1,c2,c3⟩:=ci4 sp sc sm tc h0.cell
  have c4:=ce (.bool true) (h0.cell 4)
  have c5:=ci bpage (h0.cell 5)
  have c6:=ci bslot (h0.cell 6)
  have c7:=ci bk (h0.cell 7)
  have c8:=ci bpages (h0.cell 8)
  have c9:=ce (.bool false) (h0.cell 9)
  go_enter Tryz.func115,Tryz.ntmps115
  go_upto_region 2 with fail
  refine zad 22 (by kernel_rfl) (by kernel_rfl) ?_
  dsimp only [List.take,List.drop]
  repeat (go_big_quiet_step ((first | (go_at_call 59;exact zam (hcpp.out _)) | (go_at_call 119;exact zam (hput.out _)) | fail)))
  refine wpQuiet_nil ?_
  rintro _ ⟨e',rfl⟩
  have hZ:=h0.below e'.below
  generalize e'.w=Z at *
  change wpList _ _ _ _ _ Z
  clear c0 c1 c2 c3 c4 c5 c6 c7 c8 c9 h0 lq
  go_wp2_with (first | (go_at_call 118;(with_reducible refine (hst.out _ hZ.wds).mono ?_);rintro r w2 ⟨rfl,hw2,ho2⟩;have hA:=hZ.access hw2 ho2;have z9:=ce (.bool false) (hA.cell 9);have zf:=hA.free) | fail)
  go_returns
  exact (hA.set 9 _).fin (by rw [ht2.out];rfl) rfl
 ·rw [if_neg (by rw [hl];decide)] at hr
  have hsm:=hsm hl
  have hsr:=zdg (k:=t.b.k) (by omega)
  obtain ⟨hsx,hsh⟩:=hf.slot hpg (i:=t.b.slot) (by omega)
  have hcsl:=fun Y=> zbm s.p s.c s.m t.b.page t.b.slot Y
  rw [hsx] at hcsl hr
  have hput:=fun Y=> zbl 3 t.b.k Y
  have htk:Hid (zfl t.b.k=zc3 3 t.b.k):=hd' rfl
  rw [<- htk.out] at hput
  have hst:=fun Y (hY:zaq Y p b m)=> zba p b m t.c (s.c + s.p + t.b.page * 16 + t.b.slot) (zfl t.b.k) Y hY hsh (zch _ _) hs
  generalize s.c + s.p + t.b.page * 16 + t.b.slot=sa at *
  generalize zfl t.b.k=tw at *
  obtain ⟨t2,ht2,ht2'⟩:∃ t2:Cm,Hid (t2= { t with done:=true })/\t2=_:=⟨_,hd' rfl,rfl⟩
  rw [<- ht2'] at hr
  clear ht2' hsx hsh hlg hsm hpg hc hmay ho hf hsr htk
  subst hr
  obtain ⟨tc,tb,tdone⟩:=t
  obtain ⟨blarge,bpage,bslot,bk,bpages⟩:=tb
  obtain ⟨sp,sc,sm⟩:=s
  dsimp only at hd hl hcsl hput hst ht2 ⊢
  subst hd hl
  replace hcsl:=hd' hcsl
  replace hput:=hd' hput
  replace hst:=hd' hst
  have lq:=h0.lt
  obtain ⟨c0,c1,c2,c3⟩:=ci4 sp sc sm tc h0.cell
  have c4:=ce (.bool false) (h0.cell 4)
  have c5:=ci bpage (h0.cell 5)
  have c6:=ci bslot (h0.cell 6)
  have c7:=ci bk (h0.cell 7)
  have c8:=ci bpages (h0.cell 8)
  have c9:=ce (.bool false) (h0.cell 9)
  go_enter Tryz.func115,Tryz.ntmps115
  go_upto_region 3 with fail
  refine zad 27 (by kernel_rfl) (by kernel_rfl) ?_
  dsimp only [List.take,List.drop]
  repeat (go_big_quiet_step ((first | (go_at_call 120;exact zam (hcsl.out _)) | (go_at_call 121;exact zam (hput.out _)) | fail)))
  refine wpQuiet_nil ?_
  rintro _ ⟨e',rfl⟩
  have hZ:=h0.below e'.below
  generalize e'.w=Z at *
  change wpList _ _ _ _ _ Z
  clear c0 c1 c2 c3 c4 c5 c6 c7 c8 c9 h0 lq
  go_wp2_with (first | (go_at_call 118;(with_reducible refine (hst.out _ hZ.wds).mono ?_);rintro r w2 ⟨rfl,hw2,ho2⟩;have hA:=hZ.access hw2 ho2;have z9:=ce (.bool false) (hA.cell 9);have zf:=hA.free) | fail)
  go_returns
  exact (hA.set 9 _).fin (by rw [ht2.out];rfl) rfl
theorem zyo (q p b:Nat) (s:Sh) (t:Un) (m:Mem) (w:World) (hq:zaa w q (zhm s t) 153) (hw:zaq w p b m) (hqp:q≠p) (hqb:q≠b) (hf:Fits s m) (ho:unOk s t) (hs:m.st < 1000000000):
  Calls Tryz.prog 156 #[.pointer (some ⟨q,0,.none⟩),.pointer (some ⟨p,0,.none⟩)] w fun e w'=> Stepped q p b w w' e (zhm s (zcf s t m).1) 153 (zcf s t m).2:=by
 have h0:=At3.start hq hw hqp hqb
 clear hq hw
 rcases Bool.eq_false_or_eq_true t.done with hd | hd
 ·have hr:zcf s t m=(t,m):=by unfold zcf;rw [if_pos hd]
  rw [hr]
  clear hr
  have c10:w.cell? ⟨q,10,.none⟩=some (.bool true):=by rw [<- hd];exact h0.cell 10
  clear ho hd hf
  go_enter Tryz.func156,Tryz.ntmps156
  go_wp2_with fail
  go_returns
  exact h0.fin rfl rfl
 obtain ⟨hfit,hil⟩:=ho.cl hd
 obtain ⟨hmay,hc,hpg,hlg,hsm⟩:=zdi.1 hfit
 have hbd:=hf.bd
 obtain ⟨r,hr⟩:∃ r,r=zcf s t m:=⟨_,rfl⟩
 rw [<- hr]
 unfold zcf at hr
 rw [if_neg (by rw [hd];decide)] at hr
 rcases Bool.eq_false_or_eq_true t.b.large with hl | hl
 ·rw [if_neg (by rw [hl];decide)] at hr
  have hlg:=hlg hl
  have hil:=hil hl
  have w1:=wrp (t.b.pages - 1)
  have w2:=wrp (t.i + 1)
  have w3:=wrp (t.b.page + t.i)
  have w4:=wrp (t.b.page + t.i + 1)
  by_cases hcs:t.i=t.b.pages - 1
  ·rw [if_pos hcs] at hr
   have hcb:(t.i==t.b.pages - 1)=true:=by simpa using hcs
   obtain ⟨hpx,hph⟩:=hf.page hpg
   have hcpp:=fun Y=> planPage_any s.p s.c s.m t.b.page Y
   rw [hpx] at hcpp hr
   have hst:=fun Y (hY:zaq Y p b m)=> zba p b m t.c (s.c + t.b.page) 0 Y hY hph (by decide) hs
   generalize s.c + t.b.page=pa at *
   obtain ⟨t2,ht2,ht2'⟩:∃ t2:Un,Hid (t2= { t with done:=true })/\t2=_:=⟨_,hd' rfl,rfl⟩
   rw [<- ht2'] at hr
   clear ht2' hpx hph hlg hsm hpg hc hmay ho hf hil w2 w3 w4 hbd hfit hcs
   subst hr
   obtain ⟨tc,tb,ti,tdone⟩:=t
   obtain ⟨blarge,bpage,bslot,bk,bpages⟩:=tb
   obtain ⟨sp,sc,sm⟩:=s
   dsimp only at hd hl hcpp hst ht2 w1 hcb ⊢
   subst hd hl
   replace hcpp:=hd' hcpp
   replace hst:=hd' hst
   have lq:=h0.lt
   obtain ⟨c0,c1,c2,c3⟩:=ci4 sp sc sm tc h0.cell
   have c4:=ce (.bool true) (h0.cell 4)
   have c5:=ci bpage (h0.cell 5)
   have c6:=ci bslot (h0.cell 6)
   have c7:=ci bk (h0.cell 7)
   have c8:=ci bpages (h0.cell 8)
   have c9:=ci ti (h0.cell 9)
   have c10:=ce (.bool false) (h0.cell 10)
   go_enter Tryz.func156,Tryz.ntmps156
   go_upto_region 6 with fail
   refine zaj (by kernel_rfl) (by kernel_rfl) ?_
   repeat (go_big_quiet_step (fail))
   refine wpQuiet_nil ?_
   rintro _ ⟨e',rfl⟩
   have hX:=h0.below e'.below
   generalize e'.w=X at *
   clear c0 c1 c2 c3 c4 c5 c6 c7 c8 c9 c10 h0 lq
   obtain ⟨k0,k1,k2,k3⟩:=ci4 sp sc sm tc hX.cell
   have k4:=ce (.bool true) (hX.cell 4)
   have k5:=ci bpage (hX.cell 5)
   go_upto_region 7 with fail
   have lX:=hX.lt
   refine zad 15 (by kernel_rfl) (by kernel_rfl) ?_
   dsimp only [List.take,List.drop]
   repeat (go_big_quiet_step ((first | (go_at_call 59;exact zam (hcpp.out _)) | fail)))
   refine wpQuiet_nil ?_
   rintro _ ⟨e',rfl⟩
   have hZ:=hX.below e'.below
   generalize e'.w=Z at *
   change wpList _ _ _ _ _ Z
   clear k0 k1 k2 k3 k4 k5 hX lX
   go_wp2_with (first | (go_at_call 118;(with_reducible refine (hst.out _ hZ.wds).mono ?_);rintro r w2 ⟨rfl,hw2,ho2⟩;have hA:=hZ.access hw2 ho2;have z10:=ce (.bool false) (hA.cell 10);have zf:=hA.free) | fail)
   go_returns
   exact (hA.set 10 _).fin (by rw [ht2.out];rfl) rfl
  ·rw [if_neg hcs] at hr
   have hcb:(t.i==t.b.pages - 1)=false:=by simpa using hcs
   obtain ⟨hpx,hph⟩:=hf.page (x:=t.b.page + t.i + 1) (by omega)
   have hcpp:=fun Y=> planPage_any s.p s.c s.m (t.b.page + t.i + 1) Y
   rw [hpx] at hcpp hr
   have hst:=fun Y (hY:zaq Y p b m)=> zba p b m t.c (s.c + (t.b.page + t.i + 1)) 0 Y hY hph (by decide) hs
   generalize s.c + (t.b.page + t.i + 1)=pa at *
   obtain ⟨t2,ht2,ht2'⟩:∃ t2:Un,Hid (t2= { t with i:=t.i + 1 })/\t2=_:=⟨_,hd' rfl,rfl⟩
   rw [<- ht2'] at hr
   clear ht2' hpx hph hlg hsm hpg hc hmay ho hf hil hbd hfit hcs
   subst hr
   obtain ⟨tc,tb,ti,tdone⟩:=t
   obtain ⟨blarge,bpage,bslot,bk,bpages⟩:=tb
   obtain ⟨sp,sc,sm⟩:=s
   dsimp only at hd hl hcpp hst ht2 w1 w2 w3 w4 hcb ⊢
   subst hd hl
   replace hcpp:=hd' hcpp
   replace hst:=hd' hst
   have lq:=h0.lt
   obtain ⟨c0,c1,c2,c3⟩:=ci4 sp sc sm tc h0.cell
   have c4:=ce (.bool true) (h0.cell 4)
   have c5:=ci bpage (h0.cell 5)
   have c6:=ci bslot (h0.cell 6)
   have c7:=ci bk (h0.cell 7)
   have c8:=ci bpages (h0.cell 8)
   have c9:=ci ti (h0.cell 9)
   have c10:=ce (.bool false) (h0.cell 10)
   go_enter Tryz.func156,Tryz.ntmps156
   go_upto_region 6 with fail
   refine zaj (by kernel_rfl) (by kernel_rfl) ?_
   repeat (go_big_quiet_step (fail))
   refine wpQuiet_nil ?_
   rintro _ ⟨e',rfl⟩
   have hX:=h0.below e'.below
   generalize e'.w=X at *
   clear c0 c1 c2 c3 c4 c5 c6 c7 c8 c9 c10 h0 lq
   obtain ⟨k0,k1,k2,k3⟩:=ci4 sp sc sm tc hX.cell
   have k4:=ce (.bool true) (hX.cell 4)
   have k5:=ci bpage (hX.cell 5)
   have k9:=ci ti (hX.cell 9)
   go_upto_region 0 with fail
   have lX:=hX.lt
   refine zad 21 (by kernel_rfl) (by kernel_rfl) ?_
   dsimp only [List.take,List.drop]
   repeat (go_big_quiet_step ((first | (go_at_call 59;exact zam (hcpp.out _)) | fail)))
   refine wpQuiet_nil ?_
   rintro _ ⟨e',rfl⟩
   have hZ:=hX.below e'.below
   generalize e'.w=Z at *
   change wpList _ _ _ _ _ Z
   clear k0 k1 k2 k3 k4 k5 k9 hX lX
   go_wp2_with (first | (go_at_call 118;(with_reducible refine (hst.out _ hZ.wds).mono ?_);rintro r w2 ⟨rfl,hw2,ho2⟩;have hA:=hZ.access hw2 ho2;have z9:=ci ti (hA.cell 9);have zf:=hA.free) | fail)
   go_returns
   exact (hA.set 9 _).fin (by rw [ht2.out];rfl) rfl
 ·rw [if_pos hl] at hr
  have hsm:=hsm hl
  have hsr:=zdg (k:=t.b.k) (by omega)
  obtain ⟨hsx,hsh⟩:=hf.slot hpg (i:=t.b.slot) (by omega)
  have hcsl:=fun Y=> zbm s.p s.c s.m t.b.page t.b.slot Y
  rw [hsx] at hcsl hr
  have hput:=fun Y=> zbl 1 t.b.k Y
  have htk:Hid (zc8 t.b.k=zc3 1 t.b.k):=hd' rfl
  rw [<- htk.out] at hput
  have hst:=fun Y (hY:zaq Y p b m)=> zba p b m t.c (s.c + s.p + t.b.page * 16 + t.b.slot) (zc8 t.b.k) Y hY hsh (zch _ _) hs
  generalize s.c + s.p + t.b.page * 16 + t.b.slot=sa at *
  generalize zc8 t.b.k=tw at *
  obtain ⟨t2,ht2,ht2'⟩:∃ t2:Un,Hid (t2= { t with done:=true })/\t2=_:=⟨_,hd' rfl,rfl⟩
  rw [<- ht2'] at hr
  clear ht2' hsx hsh hlg hsm hpg hc hmay ho hf hsr htk hbd hfit hil
  subst hr
  obtain ⟨tc,tb,ti,tdone⟩:=t
  obtain ⟨blarge,bpage,bslot,bk,bpages⟩:=tb
  obtain ⟨sp,sc,sm⟩:=s
  dsimp only at hd hl hcsl hput hst ht2 ⊢
  subst hd hl
  replace hcsl:=hd' hcsl
  replace hput:=hd' hput
  replace hst:=hd' hst
  have lq:=h0.lt
  obtain ⟨c0,c1,c2,c3⟩:=ci4 sp sc sm tc h0.cell
  have c4:=ce (.bool false) (h0.cell 4)
  have c5:=ci bpage (h0.cell 5)
  have c6:=ci bslot (h0.cell 6)
  have c7:=ci bk (h0.cell 7)
  have c8:=ci bpages (h0.cell 8)
  have c9:=ci ti (h0.cell 9)
  have c10:=ce (.bool false) (h0.cell 10)
  go_enter Tryz.func156,Tryz.ntmps156
  go_upto_region 4 with fail
  refine zad 27 (by kernel_rfl) (by kernel_rfl) ?_
  dsimp only [List.take,List.drop]
  repeat (go_big_quiet_step ((first | (go_at_call 120;exact zam (hcsl.out _)) | (go_at_call 121;exact zam (hput.out _)) | fail)))
  refine wpQuiet_nil ?_
  rintro _ ⟨e',rfl⟩
  have hZ:=h0.below e'.below
  generalize e'.w=Z at *
  change wpList _ _ _ _ _ Z
  clear c0 c1 c2 c3 c4 c5 c6 c7 c8 c9 c10 h0 lq
  go_wp2_with (first | (go_at_call 118;(with_reducible refine (hst.out _ hZ.wds).mono ?_);rintro r w2 ⟨rfl,hw2,ho2⟩;have hA:=hZ.access hw2 ho2;have z10:=ce (.bool false) (hA.cell 10);have zf:=hA.free) | fail)
  go_returns
  exact (hA.set 10 _).fin (by rw [ht2.out];rfl) rfl
end Go.Proofs.YthgekdlegbmehaaGreat

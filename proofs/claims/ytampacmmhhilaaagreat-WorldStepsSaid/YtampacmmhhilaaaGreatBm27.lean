/- Texts bound together: AdI JobW RenY. -/
import Derived.Test.YtampacmmhhilaaaGreatBm24

import Derived.Test.YtampacmmhhilaaaGreatBm21

import Derived.Test.YtampacmmhhilaaaGreatBm5

set_option linter.all false
/- The Adopter in memory: Step. -/
namespace Go.Proofs.YtampacmmhhilaaaGreat

open Go.RowKit

attribute [local go_sem ↓] Go.wp_at_zero Go.wp_at_succ

theorem adheld_any (q p b:Nat) (s:Sh) (t:Ad) (m:Mem) (w:World) (h0:At3 q p b w w (adCells s t) 281 m) (hf:Fits s m) (hs:m.st < 1000000000) (ho:adOk s t) (hdn:t.done=false) (hn:3≤t.next∧t.next≤8):
  Calls Tryz.prog 301 #[.pointer (some ⟨q,0, .none⟩), .pointer (some ⟨p,0, .none⟩)] w fun e w'=> e= .returned (.tuple #[])∧At3 q p b w w' (adCells s (adStep s t m).1) 281 (adStep s t m).2:=by
 obtain ⟨h1,h2,h3,h4,h5,c1,c4,c7,c9,c11⟩:=ho.cl hdn
 rcases (by omega:t.next=3∨t.next=4∨t.next=5∨t.next=6∨t.next=7∨t.next=8) with n | n | n | n | n | n
 ·exact adheld3 q p b s t m w h0 hf hs hdn n h5
 ·exact adheld4 q p b s t m w h0 hf hs hdn n h5 c4
 ·exact adheld5 q p b s t m w h0 hf hs hdn n h5
 ·exact adheld6 q p b s t m w h0 hf hs hdn n h5
 ·exact adheld7 q p b s t m w h0 hf hs hdn n h5 (c7 n)
 ·exact adheld8 q p b s t m w h0 hf hs hdn n h5
theorem adways_any (q p b:Nat) (s:Sh) (t:Ad) (m:Mem) (w:World) (h0:At3 q p b w w (adCells s t) 281 m) (hf:Fits s m) (hs:m.st < 1000000000) (ho:adOk s t) (hdn:t.done=false) (hn:10≤t.next):
  Calls Tryz.prog 302 #[.pointer (some ⟨q,0, .none⟩), .pointer (some ⟨p,0, .none⟩)] w fun e w'=> e= .returned (.tuple #[])∧At3 q p b w w' (adCells s (adStep s t m).1) 281 (adStep s t m).2:=by
 obtain ⟨h1,h2,h3,h4,h5,c1,c4,c7,c9,c11⟩:=ho.cl hdn
 have hi:t.next=11∨t.next=12→0≤t.i∧t.i < 16:=fun e=> by
  have h:=c11 e
  have:=slotsV_ok h.1
  omega
 rcases (by omega:t.next=10∨t.next=11∨t.next=12∨t.next=13) with n | n | n | n
 ·exact adways10 q p b s t m w h0 hf hs hdn n h5
 ·exact adways11 q p b s t m w h0 hf hs hdn n h5 (hi (.inl n))
 ·exact adways12 q p b s t m w h0 hf hs hdn n h5 (hi (.inr n))
 ·exact adways13 q p b s t m w h0 hf hs hdn n h5 h3
set_option maxRecDepth 100000 in
set_option maxHeartbeats 4000000 in
theorem adstep_any (q p b:Nat) (s:Sh) (t:Ad) (m:Mem) (w:World) (hq:RowAt w q (adCells s t) 281) (hw:WdsAt w p b m) (hqp:q≠p) (hqb:q≠b) (hf:Fits s m) (ho:adOk s t) (hs:m.st < 1000000000):
  Calls Tryz.prog 298 #[.pointer (some ⟨q,0, .none⟩), .pointer (some ⟨p,0, .none⟩)] w fun e w'=> Stepped q p b w w' e (adCells s (adStep s t m).1) 281 (adStep s t m).2:=by
 have h0:=At3.start hq hw hqp hqb
 clear hq hw hqp hqb
 rcases Bool.eq_false_or_eq_true t.done with hd | hd
 ·rw [adStep_end s t m hd]
  obtain ⟨sp,sc,sm⟩:=s
  obtain ⟨tc,td,tn,tw,tby,ta,ti,pk,pa,pb,terr,tdone⟩:=t
  dsimp only at hd
  subst hd
  have c14:w.cell? ⟨q,14, .none⟩=some (.bool true):=h0.cell 14
  clear hf ho hs
  go_enter Tryz.func298,Tryz.ntmps298
  go_wp2_with fail
  go_returns
  exact h0.fin rfl rfl
 have hcl:=ho.cl hd
 by_cases hg:t.next=9
 case pos=>
  obtain ⟨b1,c0,d0,n0,at0,w1,w4,w7,w9,w11⟩:=hcl
  have hi:=w9 hg
  have hbd:=mayB_iff.1 b1
  rw [adStep_9 s t m hd hg]
  obtain ⟨hpx,hph⟩:=hf.mag d0 hi
  have hcpp:=fun Y=> planMag_any s.p s.c s.m t.d t.i Y
  rw [hpx] at hcpp ⊢
  have hst:=fun Y (hY:WdsAt Y p b m)=> wstore_any p b m t.c (s.c + s.p + s.p * 16 + t.d * s.m + t.i) 0 Y hY hph (by decide) hs
  generalize s.c + s.p + s.p * 16 + t.d * s.m + t.i=pg at *
  have w1:IntKind.i64.wrap (t.i + 1)=t.i + 1:=IntWalk.i64_in _ ⟨by omega,by omega⟩
  have hcs:t.i + 1=s.m∨(¬ t.i + 1=s.m∧(t.i + 1==s.m)=false):=by
   by_cases h:t.i + 1=s.m
   ·exact .inl h
   ·exact .inr ⟨h,by simpa using h⟩
  dsimp only
  obtain ⟨t2,ht2,ht2'⟩:∃ t2:Ad,Hid (t2=if t.i + 1=s.m then { t with i:=0,next:=10 } else { t with i:=t.i + 1 })∧t2=_:=⟨_,Lib.hid rfl,rfl⟩
  rw [← ht2']
  clear ht2' hpx hph hf ho hi hbd b1 c0 d0 n0 at0 w4 w7 w9 w11
  obtain ⟨sp,sc,sm⟩:=s
  obtain ⟨tc,td,tn,tw,tby,ta,ti,pk,pa,pb,terr,tdone⟩:=t
  dsimp only at hd hg hcpp hst ht2 hcs w1
  subst hd hg
  replace hcpp:=Lib.hid hcpp
  replace hst:=Lib.hid hst
  replace hcs:=Lib.hid hcs
  have lq:=h0.lt
  have c0:w.cell? ⟨q,0, .none⟩=some (.int .i64 sp):=h0.cell 0
  have c1:w.cell? ⟨q,1, .none⟩=some (.int .i64 sc):=h0.cell 1
  have c2:w.cell? ⟨q,2, .none⟩=some (.int .i64 sm):=h0.cell 2
  have c3:w.cell? ⟨q,3, .none⟩=some (.int .i64 tc):=h0.cell 3
  have c4:w.cell? ⟨q,4, .none⟩=some (.int .i64 td):=h0.cell 4
  have c5:w.cell? ⟨q,5, .none⟩=some (.int .i64 9):=h0.cell 5
  have c9:w.cell? ⟨q,9, .none⟩=some (.int .i64 ti):=h0.cell 9
  have c14:w.cell? ⟨q,14, .none⟩=some (.bool false):=h0.cell 14
  go_enter Tryz.func298,Tryz.ntmps298
  go_upto_region 7 with fail
  refine wp_region_ext_tail 18 (by kernel_rfl) (by kernel_rfl) ?_
  dsimp only [List.take,List.drop]
  repeat (go_big_quiet_step ((first | (go_at_call 142;exact ext_of (hcpp.out _)) | fail)))
  refine wpQuiet_nil ?_
  rintro _ ⟨e',rfl⟩
  have hZ:=h0.below e'.below
  generalize e'.w=Z at *
  change wpList _ _ _ _ _ Z
  clear lq h0 c0 c1 c2 c3 c4 c5 c9 c14
  go_upto_region 9 with (first
   | (go_at_call 262;(with_reducible refine (hst.out _ hZ.wds).mono ?_);rintro r w2 ⟨rfl,hw2,ho2⟩;have hA:=hZ.access hw2 ho2;have k9:w2.cell? ⟨q,9, .none⟩=some (.int .i64 ti):=hA.cell 9;have zf:=hA.free)
   | fail)
  have hB:=hA.set 9 (.int .i64 (ti + 1))
  generalize World.setCell _ ⟨q,9, .none⟩ (.int .i64 (ti + 1))=U at *
  clear k9 zf hA
  have lU:=hB.lt
  have c2:U.cell? ⟨q,2, .none⟩=some (.int .i64 sm):=hB.cell 2
  have c9:U.cell? ⟨q,9, .none⟩=some (.int .i64 (ti + 1)):=hB.cell 9
  refine wp_region_ext (by kernel_rfl) (by kernel_rfl) ?_
  repeat (go_big_quiet_step (fail))
  refine wpQuiet_nil ?_
  rintro _ ⟨e',rfl⟩
  have hX:=hB.below e'.below
  generalize e'.w=X at *
  clear c2 c9
  rcases hcs.out with h1 | ⟨h1,h2⟩
  ·subst h1
   replace ht2:=Lib.hid (ht2.out.trans (if_pos rfl))
   clear hcs
   have k5:X.cell? ⟨q,5, .none⟩=some (.int .i64 9):=hX.cell 5
   have k9:X.cell? ⟨q,9, .none⟩=some (.int .i64 (ti + 1)):=hX.cell 9
   have zf:=hX.free
   go_wp2_with fail
   go_returns
   exact ((hX.set 9 _).set 5 _).fin (by rw [ht2.out];rfl) rfl
  ·replace ht2:=Lib.hid (ht2.out.trans (if_neg h1))
   clear hcs h1
   go_wp2_with fail
   go_returns
   exact hX.fin (by rw [ht2.out];rfl) rfl
 case neg=>
  by_cases h2:t.next≤2
  ·have hb:=adbegin_any q p b s t m w h0 hf hs hd ⟨hcl.2.2.2.1.1,h2⟩ hcl.2.2.1 hcl.2.2.2.2.2.1
   obtain ⟨t2,ht2⟩:∃ t2,t2=(adStep s t m).1:=⟨_,rfl⟩
   obtain ⟨m2,hm2⟩:∃ m2,m2=(adStep s t m).2:=⟨_,rfl⟩
   rw [← ht2,← hm2] at hb ⊢
   clear ht2 hm2 hf ho hs
   obtain ⟨sp,sc,sm⟩:=s
   obtain ⟨tc,td,tn,tw,tby,ta,ti,pk,pa,pb,terr,tdone⟩:=t
   dsimp only at hd hg hcl h2
   have hn:=hcl.2.2.2.1
   clear hcl
   subst hd
   replace hb:=Lib.hid hb
   have c5:w.cell? ⟨q,5, .none⟩=some (.int .i64 tn):=h0.cell 5
   have c14:w.cell? ⟨q,14, .none⟩=some (.bool false):=h0.cell 14
   clear h0
   rcases (by omega:tn=0∨tn=1∨tn=2) with rfl | rfl | rfl
   all_goals
    go_enter Tryz.func298,Tryz.ntmps298
    go_wp2_with (first | (go_at_call 300;(with_reducible refine hb.out.mono ?_);rintro r w1 ⟨rfl,hA⟩) | fail)
    go_returns
    exact hA.fin rfl rfl
  by_cases h8:t.next≤8
  ·have hb:=adheld_any q p b s t m w h0 hf hs ho hd ⟨by omega,h8⟩
   obtain ⟨t2,ht2⟩:∃ t2,t2=(adStep s t m).1:=⟨_,rfl⟩
   obtain ⟨m2,hm2⟩:∃ m2,m2=(adStep s t m).2:=⟨_,rfl⟩
   rw [← ht2,← hm2] at hb ⊢
   clear ht2 hm2 hf ho hs
   obtain ⟨sp,sc,sm⟩:=s
   obtain ⟨tc,td,tn,tw,tby,ta,ti,pk,pa,pb,terr,tdone⟩:=t
   dsimp only at hd hg hcl h2 h8
   have hn:=hcl.2.2.2.1
   clear hcl
   subst hd
   replace hb:=Lib.hid hb
   have c5:w.cell? ⟨q,5, .none⟩=some (.int .i64 tn):=h0.cell 5
   have c14:w.cell? ⟨q,14, .none⟩=some (.bool false):=h0.cell 14
   clear h0
   rcases (by omega:tn=3∨tn=4∨tn=5∨tn=6∨tn=7∨tn=8) with rfl | rfl | rfl | rfl | rfl | rfl
   all_goals
    go_enter Tryz.func298,Tryz.ntmps298
    go_wp2_with (first | (go_at_call 301;(with_reducible refine hb.out.mono ?_);rintro r w1 ⟨rfl,hA⟩) | fail)
    go_returns
    exact hA.fin rfl rfl
  by_cases h13:t.next≤13
  ·have hb:=adways_any q p b s t m w h0 hf hs ho hd (by omega)
   obtain ⟨t2,ht2⟩:∃ t2,t2=(adStep s t m).1:=⟨_,rfl⟩
   obtain ⟨m2,hm2⟩:∃ m2,m2=(adStep s t m).2:=⟨_,rfl⟩
   rw [← ht2,← hm2] at hb ⊢
   clear ht2 hm2 hf ho hs
   obtain ⟨sp,sc,sm⟩:=s
   obtain ⟨tc,td,tn,tw,tby,ta,ti,pk,pa,pb,terr,tdone⟩:=t
   dsimp only at hd hg hcl h2 h8 h13
   have hn:=hcl.2.2.2.1
   clear hcl
   subst hd
   replace hb:=Lib.hid hb
   have c5:w.cell? ⟨q,5, .none⟩=some (.int .i64 tn):=h0.cell 5
   have c14:w.cell? ⟨q,14, .none⟩=some (.bool false):=h0.cell 14
   clear h0
   rcases (by omega:tn=10∨tn=11∨tn=12∨tn=13) with rfl | rfl | rfl | rfl
   all_goals
    go_enter Tryz.func298,Tryz.ntmps298
    go_wp2_with (first | (go_at_call 302;(with_reducible refine hb.out.mono ?_);rintro r w1 ⟨rfl,hA⟩) | fail)
    go_returns
    exact hA.fin rfl rfl
  ·exact absurd hcl.2.2.2.1.2 (by omega)
end Go.Proofs.YtampacmmhhilaaaGreat
/- A client's jobs in memory: what Free and Adopt answer. -/
namespace Go.Proofs.YtampacmmhhilaaaGreat

open Go.RowKit

attribute [local go_sem ↓] Go.wp_at_zero Go.wp_at_succ

theorem jfgave_any (q2:Nat) (cs:Array Value) (g:Bool) (w:World) (h:RowAt w q2 cs 275) (hv:cs[14]?=some (.bool g)):
  Calls Tryz.prog 286 #[.agg #[.pointer (some ⟨q2,0, .none⟩)]] w fun e w'=> e= .returned (.bool g)∧Below w.heap.size w w':=by
 have hb0:=(Below.refl w.heap.size w).alloc (Nat.le_refl _) (.cells #[.pointer (some ⟨q2,0, .none⟩)] 236)
 have t0:=heap_alloc_new w (.cells #[.pointer (some ⟨q2,0, .none⟩)] 236)
 go_enter Tryz.func286,Tryz.ntmps286
 go_upto_region 1 with fail
 generalize w.alloc (.cells #[.pointer (some ⟨q2,0, .none⟩)] 236)=X at *
 have hg:=fegave_any q2 cs g X (h.below hb0) hv
 replace hg:=Lib.hid hg
 obtain ⟨H,hH,hH'⟩:∃ H,Hid (H=w.heap.size)∧H=w.heap.size:=⟨_,Lib.hid rfl,rfl⟩
 rw [← hH'] at t0 ⊢
 clear hH'
 have lH:H < X.heap.size:=(Array.getElem?_eq_some_iff.1 t0).1
 have c0:X.cell? ⟨H,0, .none⟩=some (.pointer (some ⟨q2,0, .none⟩)):=rowCells t0 0
 clear h t0
 clear hv
 go_wp2_with (first | (go_at_call 198;(with_reducible refine hg.out.mono ?_);rintro r w1 ⟨rfl,hw1⟩;obtain rfl:=hw1.symm) | fail)
 go_returns
 exact ⟨rfl,hb0⟩
theorem jferr_any (q2:Nat) (cs:Array Value) (g:Bool) (w:World) (h:RowAt w q2 cs 275) (hv:cs[14]?=some (.bool g)):
  Calls Tryz.prog 285 #[.agg #[.pointer (some ⟨q2,0, .none⟩)]] w fun e w'=> e= .returned (.int .i64 (if g=true then 0 else 1))∧Below w.heap.size w w':=by
 have hb0:=(Below.refl w.heap.size w).alloc (Nat.le_refl _) (.cells #[.pointer (some ⟨q2,0, .none⟩)] 236)
 have t0:=heap_alloc_new w (.cells #[.pointer (some ⟨q2,0, .none⟩)] 236)
 go_enter Tryz.func285,Tryz.ntmps285
 go_upto_region 1 with fail
 generalize w.alloc (.cells #[.pointer (some ⟨q2,0, .none⟩)] 236)=X at *
 have hg:=fegave_any q2 cs g X (h.below hb0) hv
 replace hg:=Lib.hid hg
 obtain ⟨H,hH,hH'⟩:∃ H,Hid (H=w.heap.size)∧H=w.heap.size:=⟨_,Lib.hid rfl,rfl⟩
 rw [← hH'] at t0 ⊢
 clear hH'
 have lH:H < X.heap.size:=(Array.getElem?_eq_some_iff.1 t0).1
 have c0:X.cell? ⟨H,0, .none⟩=some (.pointer (some ⟨q2,0, .none⟩)):=rowCells t0 0
 clear h t0
 clear hv
 cases g
 all_goals
  go_wp2_with (first | (go_at_call 198;(with_reducible refine hg.out.mono ?_);rintro r w1 ⟨rfl,hw1⟩;obtain rfl:=hw1.symm) | fail)
  go_returns
  exact ⟨rfl,hb0⟩
theorem jherr_any (q2:Nat) (s:Sh) (t:Ad) (w:World) (h:RowAt w q2 (adCells s t) 281):
  Calls Tryz.prog 307 #[.agg #[.pointer (some ⟨q2,0, .none⟩)]] w fun e w'=> e= .returned (.int .i64 t.err)∧Below w.heap.size w w':=by
 have hb0:=(Below.refl w.heap.size w).alloc (Nat.le_refl _) (.cells #[.pointer (some ⟨q2,0, .none⟩)] 244)
 have t0:=heap_alloc_new w (.cells #[.pointer (some ⟨q2,0, .none⟩)] 244)
 go_enter Tryz.func307,Tryz.ntmps307
 go_upto_region 1 with fail
 generalize w.alloc (.cells #[.pointer (some ⟨q2,0, .none⟩)] 244)=X at *
 have hg:=aderr_any q2 s t X (h.below hb0)
 replace hg:=Lib.hid hg
 obtain ⟨H,hH,hH'⟩:∃ H,Hid (H=w.heap.size)∧H=w.heap.size:=⟨_,Lib.hid rfl,rfl⟩
 rw [← hH'] at t0 ⊢
 clear hH'
 have lH:H < X.heap.size:=(Array.getElem?_eq_some_iff.1 t0).1
 have c0:X.cell? ⟨H,0, .none⟩=some (.pointer (some ⟨q2,0, .none⟩)):=rowCells t0 0
 clear h t0
 go_wp2_with (first | (go_at_call 310;(with_reducible refine hg.out.mono ?_);rintro r w1 ⟨rfl,hw1⟩;obtain rfl:=hw1.symm) | fail)
 go_returns
 exact ⟨rfl,hb0⟩
theorem jaerr_any (q2:Nat) (s:Sh) (t:Rr) (v1 v2 v3 v4:Value) (w:World) (h:RowAt w q2 (rrCells s t v1 v2 v3 v4) 278):
  Calls Tryz.prog 291 #[.agg #[.pointer (some ⟨q2,0, .none⟩)]] w fun e w'=> e= .returned (.int .i64 t.err)∧Below w.heap.size w w':=by
 have hb0:=(Below.refl w.heap.size w).alloc (Nat.le_refl _) (.cells #[.pointer (some ⟨q2,0, .none⟩)] 240)
 have t0:=heap_alloc_new w (.cells #[.pointer (some ⟨q2,0, .none⟩)] 240)
 go_enter Tryz.func291,Tryz.ntmps291
 go_upto_region 1 with fail
 generalize w.alloc (.cells #[.pointer (some ⟨q2,0, .none⟩)] 240)=X at *
 have hg:=rrerr_any q2 s t v1 v2 v3 v4 X (h.below hb0)
 replace hg:=Lib.hid hg
 obtain ⟨H,hH,hH'⟩:∃ H,Hid (H=w.heap.size)∧H=w.heap.size:=⟨_,Lib.hid rfl,rfl⟩
 rw [← hH'] at t0 ⊢
 clear hH'
 have lH:H < X.heap.size:=(Array.getElem?_eq_some_iff.1 t0).1
 have c0:X.cell? ⟨H,0, .none⟩=some (.pointer (some ⟨q2,0, .none⟩)):=rowCells t0 0
 clear h t0
 go_wp2_with (first | (go_at_call 294;(with_reducible refine hg.out.mono ?_);rintro r w1 ⟨rfl,hw1⟩;obtain rfl:=hw1.symm) | fail)
 go_returns
 exact ⟨rfl,hb0⟩
end Go.Proofs.YtampacmmhhilaaaGreat
/- The Renewer in memory: New. -/
namespace Go.Proofs.YtampacmmhhilaaaGreat

open Go.RowKit

attribute [local go_sem ↓] Go.wp_at_zero Go.wp_at_succ

/-- A new Renewer was made, and handed back. -/
def RrBorn (w w':World) (e:Ending) (s:Sh) (t:Rr):Prop:=∃ q,e= .returned (.pointer (some ⟨q,0, .none⟩))∧RrO (fun k=> w.heap.size≤k∧k < w'.heap.size) w' q s t∧Below w.heap.size w w'
theorem RrBorn.bare {w w':World} {q:Nat} {s:Sh} {t:Rr} (h1:w.heap.size≤q) (hb:Below w.heap.size w w') (hr:RowAt w' q (rrCells s t (.pointer none) (.pointer none) (.pointer none) (.pointer none)) 278)
  (e1:t.res=none) (e2:t.free=none) (e3:t.undo=none) (e4:t.com=none):RrBorn w w' (.returned (.pointer (some ⟨q,0, .none⟩))) s t:=by
 refine ⟨q,rfl,⟨fun k hk=> hk.2,⟨h1,hr.lt⟩,0,0,0,0,fun _=> False,fun _=> False,fun k hk=> hk.elim,fun k hk=> hk.elim,?_,?_,?_,?_,?_⟩,hb⟩
 ·rw [e1,e2,e3,e4];exact hr
 ·intro x hx;rw [e1] at hx;cases hx
 ·intro x hx;rw [e2] at hx;cases hx
 ·intro x hx;rw [e3] at hx;cases hx
 ·intro x hx;rw [e4] at hx;cases hx
/-- A Renewer with its Reserver and its Freer, ahead of settle. -/
theorem RrO.join {w Y:World} {q q1 q2:Nat} {s:Sh} {c:Int} {r:Rs} {f:Fe} {F1 F2:Nat→Prop} (h1:w.heap.size≤q) (hb:Below w.heap.size w Y) (hrow:RowAt Y q (rrCells s ⟨c,none,none,none,none,0,false⟩ (.pointer (some ⟨q1,0, .none⟩)) (.pointer (some ⟨q2,0, .none⟩)) (.pointer none) (.pointer none)) 278)
  (hr:RsO F1 Y q1 s r) (hf:FeO F2 Y q2 s f) (hF1:∀ k,F1 k→q < k∧k < Y.heap.size) (hF2:∀ k,F2 k→(q < k∧k < Y.heap.size)∧¬ F1 k):
  RrO (fun k=> w.heap.size≤k∧k < Y.heap.size) Y q s ⟨c,some r,some f,none,none,0,false⟩:=
 ⟨fun k hk=> hk.2,⟨h1,hrow.lt⟩,q1,q2,0,0,F1,F2,fun k hk=> ⟨⟨by have:=(hF1 k hk).1;omega,(hF1 k hk).2⟩,by have:=(hF1 k hk).1;omega⟩,fun k hk=> ⟨⟨by have:=(hF2 k hk).1.1;omega,(hF2 k hk).1.2⟩,by have:=(hF2 k hk).1.1;omega,(hF2 k hk).2⟩,hrow,fun x hx=> (by injection hx with hx;subst hx;exact hr),fun x hx=> (by injection hx with hx;subst hx;exact hf),fun x hx=> (by cases hx),fun x hx=> (by cases hx)⟩
theorem feo_born {Y:World} {q:Nat} {s:Sh} {c a:Int} (h:RowAt Y q (feCells s (feNew s c a) (.pointer none)) 275):FeO (fun k=> k=q) Y q s (feNew s c a):=
 ⟨rfl,0,⟨h,fun x hx=> (by cases hx)⟩,fun h=> absurd rfl h⟩
theorem size_set (w:World) (a:Addr) (v:Value):(w.setCell a v).heap.size=w.heap.size:=by simp [World.setCell]
theorem RsO.setK {F:Nat→Prop} {w:World} {q K:Nat} {s:Sh} {t:Rs} (h:RsO F w q s t) (hK:¬ F K) (i:Nat) (v:Value):RsO F (w.setCell ⟨K,i, .none⟩ v) q s t:=
 h.only (Only.setCell (F:=fun k=> k=K) (Only.refl _ _) (.inl rfl) _) (fun k hk e=> hK (e ▸ hk))
theorem RsO.bel {F:Nat→Prop} {w w':World} {q:Nat} {s:Sh} {t:Rs} (h:RsO F w q s t) (hb:Below w.heap.size w w'):RsO F w' q s t:=h.only (Only.of_below (F:=fun _=> False) hb) (fun _ _ e=> e)
set_option maxRecDepth 100000 in
set_option maxHeartbeats 4000000 in
theorem rrnew_any (s:Sh) (c a n f:Int) (w:World):
  Calls Tryz.prog 154 #[.agg #[.int .i64 s.p, .int .i64 s.c, .int .i64 s.m], .int .i64 c, .int .i64 a, .int .i64 n, .int .i64 f] w fun e w'=> RrBorn w w' e s (rrNew s c a n f):=by
 have hc1:=fun W=> split3 s a W
 have hc2:=fun W=> length_any n W
 have hc3:=fun W=> planStatus_any s.p s.c s.m c W
 have hend:=fun k Y (hY:RowAt Y k (rrCells s ⟨c,none,none,none,none,0,false⟩ (.pointer none) (.pointer none) (.pointer none) (.pointer none)) 278)=> rrend_any k s ⟨c,none,none,none,none,0,false⟩ _ _ _ _ 1 Y hY
 have hrs:=fun W=> rsnew_any s c n f W
 have hfe:=fun W=> fenew_any s c a W
 have hset:∀ (Y:World) (G:Nat→Prop) (k:Nat),RrO G Y k s ⟨c,some (rsNew s c n f),some (feNew s c a),none,none,0,false⟩→_:=fun Y G k h=> h.settled rfl rfl
 have hjoin:∀ (Y:World) (q q1 q2:Nat) (F1 F2:Nat→Prop),_→_→_→_→_→_→_→_:=fun Y q q1 q2 F1 F2=> @RrO.join w Y q q1 q2 s c (rsNew s c n f) (feNew s c a) F1 F2
 have hfb:∀ (Y:World) (q:Nat),RowAt Y q (feCells s (feNew s c a) (.pointer none)) 275→_:=fun Y q h=> feo_born h
 obtain ⟨t2,ht2,ht2'⟩:∃ t2:Rr,Hid (t2=if spB s a=true∧lenB n=true∧0≤statusIx s.p s.c s.m c then Rr.settle s ⟨c,some (rsNew s c n f),some (feNew s c a),none,none,0,false⟩ else ⟨c,none,none,none,none,1,true⟩)∧t2=rrNew s c a n f:=⟨_,Lib.hid rfl,rfl⟩
 rw [← ht2']
 clear ht2'
 generalize rsNew s c n f=rs0 at *
 generalize hfe0:feNew s c a=fe0 at *
 clear hfe0
 generalize statusIx s.p s.c s.m c=sx at *
 generalize spB s a=ok1 at *
 generalize lenB n=ok2 at *
 generalize lenV n=ln at *
 generalize (if ok1=true then a / 64 else 0)=pg at *
 generalize (if ok1=true then a % 64 else 0)=off at *
 obtain ⟨sp,sc,sm⟩:=s
 dsimp only at hc1 hc3 hrs hfe
 replace hc1:=Lib.hid hc1
 replace hc2:=Lib.hid hc2
 replace hc3:=Lib.hid hc3
 replace hend:=Lib.hid hend
 replace hrs:=Lib.hid hrs
 replace hfe:=Lib.hid hfe
 replace hset:=Lib.hid hset
 replace hjoin:=Lib.hid hjoin
 replace hfb:=Lib.hid hfb
 have hb0:=(Below.refl w.heap.size w).alloc (Nat.le_refl _) (.cells #[.int .i64 sp, .int .i64 sc, .int .i64 sm] 23)
 have t0:=heap_alloc_new w (.cells #[.int .i64 sp, .int .i64 sc, .int .i64 sm] 23)
 go_enter Tryz.func154,Tryz.ntmps154
 go_upto_region 1 with fail
 generalize w.alloc (.cells #[.int .i64 sp, .int .i64 sc, .int .i64 sm] 23)=W at *
 obtain ⟨H,hH,hH'⟩:∃ H,Hid (H=w.heap.size)∧H=w.heap.size:=⟨_,Lib.hid rfl,rfl⟩
 rw [← hH'] at t0 ⊢
 have hr0:RowAt W H #[.int .i64 sp, .int .i64 sc, .int .i64 sm] 23:=t0
 have lH:H < W.heap.size:=hr0.lt
 have c0:W.cell? ⟨H,0, .none⟩=some (.int .i64 sp):=hr0.cell 0
 have c1:W.cell? ⟨H,1, .none⟩=some (.int .i64 sc):=hr0.cell 1
 have c2:W.cell? ⟨H,2, .none⟩=some (.int .i64 sm):=hr0.cell 2
 have hHw:w.heap.size≤H:=by omega
 clear t0 hH'
 go_upto_region 4 with (first
  | (go_at_call 150;(with_reducible refine (hc1.out _).mono ?_);rintro r w1 ⟨rfl,hb1⟩;have hr1:=hr0.below hb1;have d0:w1.cell? ⟨H,0, .none⟩=some (.int .i64 sp):=hr1.cell 0;have d1:w1.cell? ⟨H,1, .none⟩=some (.int .i64 sc):=hr1.cell 1;have d2:w1.cell? ⟨H,2, .none⟩=some (.int .i64 sm):=hr1.cell 2)
  | (go_at_call 131;(with_reducible refine (hc2.out _).mono ?_);rintro r w2 ⟨rfl,hw2⟩;obtain rfl:=hw2.symm)
  | fail)
 have hbW:=belowTrans hb0 hb1
 have hr:RowAt (w1.alloc (.cells (rrCells ⟨sp,sc,sm⟩ ⟨c,none,none,none,none,0,false⟩ (.pointer none) (.pointer none) (.pointer none) (.pointer none)) 278)) w1.heap.size (rrCells ⟨sp,sc,sm⟩ ⟨c,none,none,none,none,0,false⟩ (.pointer none) (.pointer none) (.pointer none) (.pointer none)) 278:=heap_alloc_new _ _
 have hbV:=hbW.trans ((Below.refl w.heap.size w1).alloc hbW.size (.cells (rrCells ⟨sp,sc,sm⟩ ⟨c,none,none,none,none,0,false⟩ (.pointer none) (.pointer none) (.pointer none) (.pointer none)) 278))
 have hrr:=hr1.alloc (.cells (rrCells ⟨sp,sc,sm⟩ ⟨c,none,none,none,none,0,false⟩ (.pointer none) (.pointer none) (.pointer none) (.pointer none)) 278)
 have hHK:H≠w1.heap.size:=fun e=> by have:=hr1.lt;omega
 have hKw:w.heap.size≤w1.heap.size:=hbW.size
 dsimp only [rrCells] at hr hbV hrr hend
 generalize w1.alloc (.cells #[.int .i64 sp, .int .i64 sc, .int .i64 sm, .int .i64 c, .pointer none, .pointer none, .pointer none, .pointer none, .int .i64 0, .bool false] 278)=V at *
 obtain ⟨K,hK,hK'⟩:∃ K,Hid (K=w1.heap.size)∧K=w1.heap.size:=⟨_,Lib.hid rfl,rfl⟩
 rw [← hK'] at hr hHK hKw ⊢
 have lHV:H < V.heap.size:=hrr.lt
 have lKV:K < V.heap.size:=hr.lt
 clear hK' d0 d1 d2 c0 c1 c2 lH hr0 hb0 hbW hb1 hr1
 have c0:V.cell? ⟨H,0, .none⟩=some (.int .i64 sp):=hrr.cell 0
 have c1:V.cell? ⟨H,1, .none⟩=some (.int .i64 sc):=hrr.cell 1
 have c2:V.cell? ⟨H,2, .none⟩=some (.int .i64 sm):=hrr.cell 2
 have hcs:(ok1=false∧t2=⟨c,none,none,none,none,1,true⟩)∨(ok1=true∧ok2=false∧t2=⟨c,none,none,none,none,1,true⟩)∨(ok1=true∧ok2=true∧decide (sx < 0)=true∧t2=⟨c,none,none,none,none,1,true⟩)∨(ok1=true∧ok2=true∧decide (sx < 0)=false∧t2=Rr.settle ⟨sp,sc,sm⟩ ⟨c,some rs0,some fe0,none,none,0,false⟩):=by
  rw [ht2.out]
  cases ok1
  ·exact .inl ⟨rfl,if_neg (by simp)⟩
  ·cases ok2
   ·exact .inr (.inl ⟨rfl,rfl,if_neg (by simp)⟩)
   ·by_cases h:sx < 0
    ·exact .inr (.inr (.inl ⟨rfl,rfl,decide_eq_true h,if_neg (by simp;omega)⟩))
    ·exact .inr (.inr (.inr ⟨rfl,rfl,decide_eq_false h,if_pos ⟨rfl,rfl,by omega⟩⟩))
 clear ht2
 rcases hcs with ⟨rfl,ht2⟩ | ⟨rfl,rfl,ht2⟩ | ⟨rfl,rfl,h1,ht2⟩ | ⟨rfl,rfl,h1,ht2⟩
 case inl=>
  replace ht2:=Lib.hid ht2
  go_wp2_with (first | (go_at_call 178;(with_reducible refine (hend.out _ _ hr).mono ?_);rintro r w3 hT;obtain rfl:=hT.ret) | fail)
  go_returns
  rw [ht2.out]
  exact RrBorn.bare hKw (hbV.trans (hT.only.below hbV.size fun k hk=> by rw [hk];exact hKw)) hT.row rfl rfl rfl rfl
 case inr.inl=>
  replace ht2:=Lib.hid ht2
  go_wp2_with (first | (go_at_call 178;(with_reducible refine (hend.out _ _ hr).mono ?_);rintro r w3 hT;obtain rfl:=hT.ret) | fail)
  go_returns
  rw [ht2.out]
  exact RrBorn.bare hKw (hbV.trans (hT.only.below hbV.size fun k hk=> by rw [hk];exact hKw)) hT.row rfl rfl rfl rfl
 case inr.inr.inl=>
  replace ht2:=Lib.hid ht2
  go_wp2_with (first
   | (go_at_call 67;(with_reducible refine (hc3.out _).mono ?_);rintro r w4 ⟨rfl,hb4⟩;have hr4:=hr.below hb4)
   | (go_at_call 178;(with_reducible refine (hend.out _ _ hr4).mono ?_);rintro r w3 hT;obtain rfl:=hT.ret) | fail)
  go_returns
  rw [ht2.out]
  have hbU:=belowTrans hbV hb4
  exact RrBorn.bare hKw (hbU.trans (hT.only.below hbU.size fun k hk=> by rw [hk];exact hKw)) hT.row rfl rfl rfl rfl
 case inr.inr.inr=>
  replace ht2:=Lib.hid ht2
  go_upto_region 7 with (first
   | (go_at_call 67;(with_reducible refine (hc3.out _).mono ?_);rintro r w4 ⟨rfl,hb4⟩)
   | fail)
  have hK4:=hr.below hb4
  have hH4:=hrr.below hb4
  have hbU:=belowTrans hbV hb4
  clear hr hrr hbV hb4 c0 c1 c2 lHV lKV hend hc1 hc2 hc3
  have hset2:=Lib.hid (fun (Z:World) (q1 q2:Nat) (F1:Nat→Prop) (hb:Below w.heap.size w Z) (hrow:RowAt Z K (rrCells ⟨sp,sc,sm⟩ ⟨c,none,none,none,none,0,false⟩ (.pointer (some ⟨q1,0, .none⟩)) (.pointer (some ⟨q2,0, .none⟩)) (.pointer none) (.pointer none)) 278) (h1:RsO F1 Z q1 ⟨sp,sc,sm⟩ rs0) (h2:RowAt Z q2 (feCells ⟨sp,sc,sm⟩ fe0 (.pointer none)) 275) (h3:∀ k,F1 k→K < k∧k < Z.heap.size) (h4:K < q2∧¬ F1 q2)=>
   ((hset.out Z _ K (hjoin.out Z K q1 q2 F1 (fun k=> k=q2) hKw hb hrow h1 (hfb.out Z q2 h2) h3 (fun k hk=> by subst hk;exact ⟨⟨h4.1,h2.lt⟩,h4.2⟩))).mono (fun e w' hE=> (⟨hE.1,K,rfl,by
    have hs:=hE.2.1.size
    refine (ht2.out ▸ hE.2.2).weak (fun k hk=> ?_) (fun k hk=> hk.2)
    rcases hk with hk | hk
    ·exact ⟨hk.1,Nat.lt_of_lt_of_le hk.2 hs⟩
    ·exact ⟨Nat.le_trans hb.size hk.1,hk.2⟩,hb.trans (hE.2.1.below hb.size fun k hk=> by rw [hk];exact hKw)⟩:e= .returned (.tuple #[])∧RrBorn w w' (.returned (.pointer (some ⟨K,0, .none⟩))) ⟨sp,sc,sm⟩ t2)):Calls Tryz.prog 179 #[.pointer (some ⟨K,0, .none⟩)] Z fun e w'=> e= .returned (.tuple #[])∧RrBorn w w' (.returned (.pointer (some ⟨K,0, .none⟩))) ⟨sp,sc,sm⟩ t2))
  clear hset hjoin hfb ht2
  have hbd:Below w.heap.size w w4.drew:=hbU.drew
  have hHd:=hH4.drew
  have hKd:=hK4.drew
  have lHd:H < w4.drew.heap.size:=hHd.lt
  have lKd:K < w4.drew.heap.size:=hKd.lt
  have c4:w4.drew.cell? ⟨K,4, .none⟩=some (.pointer none):=hKd.cell 4
  have c5:w4.drew.cell? ⟨K,5, .none⟩=some (.pointer none):=hKd.cell 5
  have hS:=Lib.hid (fun (Y:World) (h:RowAt Y H #[.int .i64 sp, .int .i64 sc, .int .i64 sm] 23)=> (⟨h.cell 0,h.cell 1,h.cell 2⟩:Y.cell? ⟨H,0, .none⟩=some (.int .i64 sp)∧Y.cell? ⟨H,1, .none⟩=some (.int .i64 sc)∧Y.cell? ⟨H,2, .none⟩=some (.int .i64 sm)))
  have hKH:K≠H:=fun e=> hHK e.symm
  go_region_held3 (fun Y=> Y.cell? ⟨H,0, .none⟩=some (.int .i64 sp)∧Y.cell? ⟨H,1, .none⟩=some (.int .i64 sc)∧Y.cell? ⟨H,2, .none⟩=some (.int .i64 sm))
   (first | exact hS.out _ hHd | exact hS.out _ hHr | exact hS.out _ hHf | exact hS.out _ (hHr.other hHK _ _) | exact hS.out _ (hHf.other hHK _ _) | exact hS.out _ ((hHr.other hHK _ _).other hHK _ _) | exact hS.out _ ((hHf.other hHK _ _).other hHK _ _) | fail)
   (first
    | (go_at_call 152;(with_reducible refine (hrs.out _).mono ?_);rintro r wr ⟨q1,rfl,hOr,hbr⟩;have hHr:RowAt wr H #[.int .i64 sp, .int .i64 sc, .int .i64 sm] 23:=(by first | exact hHd.below hbr | exact hHf.below hbr | exact (hHf.other hHK _ _).below hbr);obtain ⟨va,vb,hKr⟩:∃ va vb,RowAt wr K #[.int .i64 sp, .int .i64 sc, .int .i64 sm, .int .i64 c,va,vb, .pointer none, .pointer none, .int .i64 0, .bool false] 278:=(by first | exact ⟨_,_,hKd.below hbr⟩ | exact ⟨_,_,hKf.below hbr⟩ | exact ⟨_,_,((hKf.set 5 _).cast rfl).below hbr⟩);have z4:wr.cell? ⟨K,4, .none⟩=some va:=hKr.cell 4;have z5:wr.cell? ⟨K,5, .none⟩=some vb:=hKr.cell 5;have zf:=rowFree hKr)
    | (go_at_call 153;(with_reducible refine (hfe.out _).mono ?_);rintro r wf ⟨q2,rfl,hq2,hOf,hbf⟩;have hHf:RowAt wf H #[.int .i64 sp, .int .i64 sc, .int .i64 sm] 23:=(by first | exact hHd.below hbf | exact hHr.below hbf | exact (hHr.other hHK _ _).below hbf);obtain ⟨va,vb,hKf⟩:∃ va vb,RowAt wf K #[.int .i64 sp, .int .i64 sc, .int .i64 sm, .int .i64 c,va,vb, .pointer none, .pointer none, .int .i64 0, .bool false] 278:=(by first | exact ⟨_,_,hKd.below hbf⟩ | exact ⟨_,_,hKr.below hbf⟩ | exact ⟨_,_,((hKr.set 4 _).cast rfl).below hbf⟩);have y4:wf.cell? ⟨K,4, .none⟩=some va:=hKf.cell 4;have y5:wf.cell? ⟨K,5, .none⟩=some vb:=hKf.cell 5;have yf:=rowFree hKf)
    | fail)
  have hsz1:=hbr.size
  have hsz2:=hbf.size
  have hq2':=hOf.lt
  have hK1:¬ (w4.drew.heap.size≤K∧K < wr.heap.size):=fun e=> by omega
  have hZ1:Below w.heap.size w ((wf.setCell ⟨K,4, .none⟩ (.pointer (some ⟨q1,0, .none⟩))).setCell ⟨K,5, .none⟩ (.pointer (some ⟨q2,0, .none⟩))):=((belowTrans (belowTrans hbd hbr) hbf).setCell (p:=⟨K,4, .none⟩) hKw _).setCell (p:=⟨K,5, .none⟩) hKw _
  have hZ2:=(((hKd.below hbr).below hbf).set 4 (.pointer (some ⟨q1,0, .none⟩))).set 5 (.pointer (some ⟨q2,0, .none⟩))
  have hZ3:=((hOr.bel hbf).setK hK1 4 (.pointer (some ⟨q1,0, .none⟩))).setK hK1 5 (.pointer (some ⟨q2,0, .none⟩))
  have hKq:q2≠K:=fun e=> by omega
  have hZ4:=(hOf.other hKq 4 (.pointer (some ⟨q1,0, .none⟩))).other hKq 5 (.pointer (some ⟨q2,0, .none⟩))
  have hZs:((wf.setCell ⟨K,4, .none⟩ (.pointer (some ⟨q1,0, .none⟩))).setCell ⟨K,5, .none⟩ (.pointer (some ⟨q2,0, .none⟩))).heap.size=wf.heap.size:=(size_set _ _ _).trans (size_set _ _ _)
  generalize (wf.setCell ⟨K,4, .none⟩ (.pointer (some ⟨q1,0, .none⟩))).setCell ⟨K,5, .none⟩ (.pointer (some ⟨q2,0, .none⟩))=Z at *
  have hgo:=Lib.hid (hset2.out Z q1 q2 _ hZ1 (hZ2.cast rfl) hZ3 hZ4 (fun k hk=> by omega) ⟨by omega,fun e=> by omega⟩)
  clear hZ1 hZ2 hZ3 hZ4 hset2
  go_wp2_with (first | (go_at_call 179;(with_reducible refine hgo.out.mono ?_);rintro r w9 ⟨rfl,hB⟩) | fail)
  go_returns
  exact hB
end Go.Proofs.YtampacmmhhilaaaGreat

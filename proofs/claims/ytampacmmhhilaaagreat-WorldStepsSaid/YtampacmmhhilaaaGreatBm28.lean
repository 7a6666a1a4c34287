/- Texts bound together: JobV JobM JobN JobS. -/
import Derived.Test.YtampacmmhhilaaaGreatBm27

set_option linter.all false
/- A client's jobs in memory: what Free, Realloc and Adopt have taken and given. -/
namespace Go.Proofs.YtampacmmhhilaaaGreat

open Go.RowKit

attribute [local go_sem ↓] Go.wp_at_zero Go.wp_at_succ

theorem RrO.only {F G:Nat→Prop} {w w':World} {q:Nat} {s:Sh} {t:Rr} (h:RrO F w q s t) (ho:Only G w w') (hd:∀ k,F k→¬ G k):RrO F w' q s t:=by
 obtain ⟨hF,h1,q1,q2,q3,q4,F1,F2,hF1,hF2,hrow,hr,hf,hu,hc⟩:=h
 refine ⟨fun k hk=> Nat.lt_of_lt_of_le (hF k hk) ho.size,h1,q1,q2,q3,q4,F1,F2,hF1,hF2,hrow.only ho (hd q h1),fun x hx=> (hr x hx).only ho (fun k hk=> hd k (hF1 k hk).1),fun x hx=> (hf x hx).only ho (fun k hk=> hd k (hF2 k hk).1),fun x hx=> ⟨(hu x hx).1,(hu x hx).2.only ho (hd q3 (hu x hx).1.1)⟩,fun x hx=> ⟨(hc x hx).1,(hc x hx).2.only ho (hd q4 (hc x hx).1.1)⟩⟩
theorem RrO.below {F:Nat→Prop} {w w':World} {q:Nat} {s:Sh} {t:Rr} (h:RrO F w q s t) (hb:Below w.heap.size w w'):RrO F w' q s t:=h.only (Only.of_below (F:=fun _=> False) hb) (fun _ _ e=> e)
theorem RrO.found {F:Nat→Prop} {q:Nat} {s:Sh} {t:Rr} {w:World} (h:RrO F w q s t) (hd:t.done=true→t.err=0→∃ r,t.res=some r):
  Calls Tryz.prog 296 #[.pointer (some ⟨q,0, .none⟩)] w fun e w'=> e= .returned (gotV (Jb.aga t).took)∧Below w.heap.size w w':=by
 obtain ⟨hF,h1,q1,q2,q3,q4,F1,F2,hF1,hF2,hrow,hr,hf,hu,hc⟩:=h
 by_cases hh:t.done=true∧t.err=0
 ·obtain ⟨r,hres⟩:=hd hh.1 hh.2
  have e:(Jb.aga t).took=r.got:=by unfold Jb.took;dsimp only;rw [if_pos hh,hres]
  rw [e]
  rw [hres] at hrow
  exact rrfound_any q q1 s t r _ _ _ w hrow (hr r hres) hh.1 hh.2
 ·have e:(Jb.aga t).took=none:=by unfold Jb.took;dsimp only;rw [if_neg hh]
  rw [e]
  refine rrfound_no q s t _ _ _ _ w hrow ?_
  rcases Bool.eq_false_or_eq_true t.done with h1 | h1
  ·exact .inr (fun e=> hh ⟨h1,e⟩)
  ·exact .inl h1
theorem RrO.gaves {F:Nat→Prop} {q:Nat} {s:Sh} {t:Rr} {w:World} (h:RrO F w q s t):
  Calls Tryz.prog 295 #[.pointer (some ⟨q,0, .none⟩)] w fun e w'=> e= .returned (.bool (Jb.aga t).gave)∧w'=w:=by
 obtain ⟨hF,h1,q1,q2,q3,q4,F1,F2,hF1,hF2,hrow,hr,hf,hu,hc⟩:=h
 unfold Jb.gave
 dsimp only
 rcases hfr:t.free with _ | f
 ·rw [hfr] at hrow
  exact rrgave_any_nil q s t _ _ _ w hrow
 ·rw [hfr] at hrow
  obtain ⟨_,q5,h3,_⟩:=hf f hfr
  exact rrgave_any q q2 s t f _ _ _ _ w hrow h3.row
theorem jftook_any (v:Value) (w:World):
  Calls Tryz.prog 287 #[.agg #[v]] w fun e w'=> e= .returned (gotV none)∧Below w.heap.size w w':=by
 have hb0:=((Below.refl w.heap.size w).alloc (Nat.le_refl _) (.cells #[v] 236)).alloc (by simp) (.cells #[.bool false, .int .i64 0, .int .i64 0, .int .i64 0, .int .i64 0] 263)
 have hE:RowAt ((w.alloc (.cells #[v] 236)).alloc (.cells #[.bool false, .int .i64 0, .int .i64 0, .int .i64 0, .int .i64 0] 263)) (w.heap.size + 1) #[.bool false, .int .i64 0, .int .i64 0, .int .i64 0, .int .i64 0] 263:=by
  have h:=heap_alloc_new (w.alloc (.cells #[v] 236)) (.cells #[.bool false, .int .i64 0, .int .i64 0, .int .i64 0, .int .i64 0] 263)
  rw [show (w.alloc (.cells #[v] 236)).heap.size=w.heap.size + 1 by simp] at h
  exact h
 have hw1:w.heap.size≤w.heap.size + 1:=by omega
 go_enter Tryz.func287,Tryz.ntmps287
 go_upto_region 1 with fail
 generalize (w.alloc (.cells #[v] 236)).alloc (.cells #[.bool false, .int .i64 0, .int .i64 0, .int .i64 0, .int .i64 0] 263)=X at *
 obtain ⟨E,hEE,hEE'⟩:∃ E,Hid (E=w.heap.size + 1)∧E=w.heap.size + 1:=⟨_,Lib.hid rfl,rfl⟩
 simp only [← hEE'] at hE hw1 ⊢
 clear hEE'
 have lE:=hE.lt
 have fE:=rowFree hE
 have e0:X.cell? ⟨E,0, .none⟩=some (.bool false):=hE.cell 0
 have e1:X.cell? ⟨E,1, .none⟩=some (.int .i64 0):=hE.cell 1
 have e2:X.cell? ⟨E,2, .none⟩=some (.int .i64 0):=hE.cell 2
 have e3:X.cell? ⟨E,3, .none⟩=some (.int .i64 0):=hE.cell 3
 have e4:X.cell? ⟨E,4, .none⟩=some (.int .i64 0):=hE.cell 4
 go_wp2_with fail
 have hF:RowAt (((((X.setCell ⟨E,0, .none⟩ (.bool false)).setCell ⟨E,1, .none⟩ (.int .i64 0)).setCell ⟨E,2, .none⟩ (.int .i64 0)).setCell ⟨E,3, .none⟩ (.int .i64 0)).setCell ⟨E,4, .none⟩ (.int .i64 0)) E #[.bool false, .int .i64 0, .int .i64 0, .int .i64 0, .int .i64 0] 263:=(((((hE.set 0 (.bool false)).set 1 (.int .i64 0)).set 2 (.int .i64 0)).set 3 (.int .i64 0)).set 4 (.int .i64 0))
 have hbF:Below w.heap.size w (((((X.setCell ⟨E,0, .none⟩ (.bool false)).setCell ⟨E,1, .none⟩ (.int .i64 0)).setCell ⟨E,2, .none⟩ (.int .i64 0)).setCell ⟨E,3, .none⟩ (.int .i64 0)).setCell ⟨E,4, .none⟩ (.int .i64 0)):=(((((hb0.setCell (p:=⟨E,0, .none⟩) hw1 (.bool false)).setCell (p:=⟨E,1, .none⟩) hw1 (.int .i64 0)).setCell (p:=⟨E,2, .none⟩) hw1 (.int .i64 0)).setCell (p:=⟨E,3, .none⟩) hw1 (.int .i64 0)).setCell (p:=⟨E,4, .none⟩) hw1 (.int .i64 0))
 generalize ((((X.setCell ⟨E,0, .none⟩ (.bool false)).setCell ⟨E,1, .none⟩ (.int .i64 0)).setCell ⟨E,2, .none⟩ (.int .i64 0)).setCell ⟨E,3, .none⟩ (.int .i64 0)).setCell ⟨E,4, .none⟩ (.int .i64 0)=U at *
 have r0:U.cell? ⟨E,0, .none⟩=some (.bool false):=hF.cell 0
 have r1:U.cell? ⟨E,1, .none⟩=some (.int .i64 0):=hF.cell 1
 have r2:U.cell? ⟨E,2, .none⟩=some (.int .i64 0):=hF.cell 2
 have r3:U.cell? ⟨E,3, .none⟩=some (.int .i64 0):=hF.cell 3
 have r4:U.cell? ⟨E,4, .none⟩=some (.int .i64 0):=hF.cell 4
 exact bodyPost_ret (v:= .tuple #[.agg #[.bool false, .int .i64 0, .int .i64 0, .int .i64 0, .int .i64 0], .bool false]) (by simp [results,Tryz.results287,go_sem,r0,r1,r2,r3,r4]) rfl ⟨rfl,hbF⟩
theorem jhtook_any (v:Value) (w:World):
  Calls Tryz.prog 309 #[.agg #[v]] w fun e w'=> e= .returned (gotV none)∧Below w.heap.size w w':=by
 have hb0:=((Below.refl w.heap.size w).alloc (Nat.le_refl _) (.cells #[v] 244)).alloc (by simp) (.cells #[.bool false, .int .i64 0, .int .i64 0, .int .i64 0, .int .i64 0] 263)
 have hE:RowAt ((w.alloc (.cells #[v] 244)).alloc (.cells #[.bool false, .int .i64 0, .int .i64 0, .int .i64 0, .int .i64 0] 263)) (w.heap.size + 1) #[.bool false, .int .i64 0, .int .i64 0, .int .i64 0, .int .i64 0] 263:=by
  have h:=heap_alloc_new (w.alloc (.cells #[v] 244)) (.cells #[.bool false, .int .i64 0, .int .i64 0, .int .i64 0, .int .i64 0] 263)
  rw [show (w.alloc (.cells #[v] 244)).heap.size=w.heap.size + 1 by simp] at h
  exact h
 have hw1:w.heap.size≤w.heap.size + 1:=by omega
 go_enter Tryz.func309,Tryz.ntmps309
 go_upto_region 1 with fail
 generalize (w.alloc (.cells #[v] 244)).alloc (.cells #[.bool false, .int .i64 0, .int .i64 0, .int .i64 0, .int .i64 0] 263)=X at *
 obtain ⟨E,hEE,hEE'⟩:∃ E,Hid (E=w.heap.size + 1)∧E=w.heap.size + 1:=⟨_,Lib.hid rfl,rfl⟩
 simp only [← hEE'] at hE hw1 ⊢
 clear hEE'
 have lE:=hE.lt
 have fE:=rowFree hE
 have e0:X.cell? ⟨E,0, .none⟩=some (.bool false):=hE.cell 0
 have e1:X.cell? ⟨E,1, .none⟩=some (.int .i64 0):=hE.cell 1
 have e2:X.cell? ⟨E,2, .none⟩=some (.int .i64 0):=hE.cell 2
 have e3:X.cell? ⟨E,3, .none⟩=some (.int .i64 0):=hE.cell 3
 have e4:X.cell? ⟨E,4, .none⟩=some (.int .i64 0):=hE.cell 4
 go_wp2_with fail
 have hF:RowAt (((((X.setCell ⟨E,0, .none⟩ (.bool false)).setCell ⟨E,1, .none⟩ (.int .i64 0)).setCell ⟨E,2, .none⟩ (.int .i64 0)).setCell ⟨E,3, .none⟩ (.int .i64 0)).setCell ⟨E,4, .none⟩ (.int .i64 0)) E #[.bool false, .int .i64 0, .int .i64 0, .int .i64 0, .int .i64 0] 263:=(((((hE.set 0 (.bool false)).set 1 (.int .i64 0)).set 2 (.int .i64 0)).set 3 (.int .i64 0)).set 4 (.int .i64 0))
 have hbF:Below w.heap.size w (((((X.setCell ⟨E,0, .none⟩ (.bool false)).setCell ⟨E,1, .none⟩ (.int .i64 0)).setCell ⟨E,2, .none⟩ (.int .i64 0)).setCell ⟨E,3, .none⟩ (.int .i64 0)).setCell ⟨E,4, .none⟩ (.int .i64 0)):=(((((hb0.setCell (p:=⟨E,0, .none⟩) hw1 (.bool false)).setCell (p:=⟨E,1, .none⟩) hw1 (.int .i64 0)).setCell (p:=⟨E,2, .none⟩) hw1 (.int .i64 0)).setCell (p:=⟨E,3, .none⟩) hw1 (.int .i64 0)).setCell (p:=⟨E,4, .none⟩) hw1 (.int .i64 0))
 generalize ((((X.setCell ⟨E,0, .none⟩ (.bool false)).setCell ⟨E,1, .none⟩ (.int .i64 0)).setCell ⟨E,2, .none⟩ (.int .i64 0)).setCell ⟨E,3, .none⟩ (.int .i64 0)).setCell ⟨E,4, .none⟩ (.int .i64 0)=U at *
 have r0:U.cell? ⟨E,0, .none⟩=some (.bool false):=hF.cell 0
 have r1:U.cell? ⟨E,1, .none⟩=some (.int .i64 0):=hF.cell 1
 have r2:U.cell? ⟨E,2, .none⟩=some (.int .i64 0):=hF.cell 2
 have r3:U.cell? ⟨E,3, .none⟩=some (.int .i64 0):=hF.cell 3
 have r4:U.cell? ⟨E,4, .none⟩=some (.int .i64 0):=hF.cell 4
 exact bodyPost_ret (v:= .tuple #[.agg #[.bool false, .int .i64 0, .int .i64 0, .int .i64 0, .int .i64 0], .bool false]) (by simp [results,Tryz.results309,go_sem,r0,r1,r2,r3,r4]) rfl ⟨rfl,hbF⟩
theorem jagave_any {F:Nat→Prop} {q:Nat} {s:Sh} {t:Rr} {w:World} (h:RrO F w q s t):
  Calls Tryz.prog 292 #[.agg #[.pointer (some ⟨q,0, .none⟩)]] w fun e w'=> e= .returned (.bool (Jb.aga t).gave)∧Below w.heap.size w w':=by
 have hb0:=(Below.refl w.heap.size w).alloc (Nat.le_refl _) (.cells #[.pointer (some ⟨q,0, .none⟩)] 240)
 have t0:=heap_alloc_new w (.cells #[.pointer (some ⟨q,0, .none⟩)] 240)
 have hq:q < w.heap.size:=h.1 q h.2.1
 go_enter Tryz.func292,Tryz.ntmps292
 go_upto_region 1 with fail
 generalize w.alloc (.cells #[.pointer (some ⟨q,0, .none⟩)] 240)=X at *
 have hg:=(h.below hb0).gaves
 replace hg:=Lib.hid hg
 obtain ⟨H,hH,hH'⟩:∃ H,Hid (H=w.heap.size)∧H=w.heap.size:=⟨_,Lib.hid rfl,rfl⟩
 rw [← hH'] at t0 ⊢
 clear hH'
 have lH:H < X.heap.size:=(Array.getElem?_eq_some_iff.1 t0).1
 have c0:X.cell? ⟨H,0, .none⟩=some (.pointer (some ⟨q,0, .none⟩)):=rowCells t0 0
 clear h t0
 go_wp2_with (first | (go_at_call 295;(with_reducible refine hg.out.mono ?_);rintro r w1 ⟨rfl,hw1⟩;obtain rfl:=hw1.symm) | fail)
 go_returns
 exact ⟨rfl,hb0⟩
theorem jhgave_any (v:Value) (w:World):
  Calls Tryz.prog 308 #[.agg #[v]] w fun e w'=> e= .returned (.bool false)∧Below w.heap.size w w':=by
 have hb0:=(Below.refl w.heap.size w).alloc (Nat.le_refl _) (.cells #[v] 244)
 go_enter Tryz.func308,Tryz.ntmps308
 go_wp2_with fail
 go_returns
 exact ⟨rfl,hb0⟩
set_option maxRecDepth 100000 in
set_option maxHeartbeats 2000000 in
theorem jatook_any {F:Nat→Prop} {q:Nat} {s:Sh} {t:Rr} {w:World} (h:RrO F w q s t) (hd:t.done=true→t.err=0→∃ r,t.res=some r):
  Calls Tryz.prog 293 #[.agg #[.pointer (some ⟨q,0, .none⟩)]] w fun e w'=> e= .returned (gotV (Jb.aga t).took)∧Below w.heap.size w w':=by
 have hb0:=((Below.refl w.heap.size w).alloc (Nat.le_refl _) (.cells #[.pointer (some ⟨q,0, .none⟩)] 240)).alloc (by simp) (.cells #[.bool false, .int .i64 0, .int .i64 0, .int .i64 0, .int .i64 0] 263)
 have hE:RowAt ((w.alloc (.cells #[.pointer (some ⟨q,0, .none⟩)] 240)).alloc (.cells #[.bool false, .int .i64 0, .int .i64 0, .int .i64 0, .int .i64 0] 263)) (w.heap.size + 1) #[.bool false, .int .i64 0, .int .i64 0, .int .i64 0, .int .i64 0] 263:=by
  have h:=heap_alloc_new (w.alloc (.cells #[.pointer (some ⟨q,0, .none⟩)] 240)) (.cells #[.bool false, .int .i64 0, .int .i64 0, .int .i64 0, .int .i64 0] 263)
  rw [show (w.alloc (.cells #[.pointer (some ⟨q,0, .none⟩)] 240)).heap.size=w.heap.size + 1 by simp] at h
  exact h
 have hH:RowAt ((w.alloc (.cells #[.pointer (some ⟨q,0, .none⟩)] 240)).alloc (.cells #[.bool false, .int .i64 0, .int .i64 0, .int .i64 0, .int .i64 0] 263)) w.heap.size #[.pointer (some ⟨q,0, .none⟩)] 240:=RowAt.alloc (heap_alloc_new _ _) _
 have hfo:=(h.below hb0).found hd
 unfold gotV at hfo ⊢
 generalize (Jb.aga t).took.getD Blk.zero=gb at *
 generalize (Jb.aga t).took.isSome=gok at *
 obtain ⟨bl,bp,bs,bk,bn⟩:=gb
 dsimp only [blkCells] at hfo ⊢
 clear h hd
 go_enter Tryz.func293,Tryz.ntmps293
 go_upto_region 1 with fail
 generalize (w.alloc (.cells #[.pointer (some ⟨q,0, .none⟩)] 240)).alloc (.cells #[.bool false, .int .i64 0, .int .i64 0, .int .i64 0, .int .i64 0] 263)=X at *
 obtain ⟨E,hEE,hEE'⟩:∃ E,Hid (E=w.heap.size + 1)∧E=w.heap.size + 1:=⟨_,Lib.hid rfl,rfl⟩
 simp only [← hEE'] at hE ⊢
 have hEw:w.heap.size≤E:=by omega
 clear hEE'
 obtain ⟨H,hHH,hHH'⟩:∃ H,Hid (H=w.heap.size)∧H=w.heap.size:=⟨_,Lib.hid rfl,rfl⟩
 rw [← hHH'] at hH ⊢
 clear hHH'
 have lH:H < X.heap.size:=hH.lt
 have c0:X.cell? ⟨H,0, .none⟩=some (.pointer (some ⟨q,0, .none⟩)):=hH.cell 0
 replace hfo:=Lib.hid hfo
 go_wp2_with (first | (go_at_call 296;(with_reducible refine hfo.out.mono ?_);rintro r w1 ⟨rfl,hb1⟩;have hE1:=hE.below hb1;have e0:w1.cell? ⟨E,0, .none⟩=some (.bool false):=hE1.cell 0;have e1:w1.cell? ⟨E,1, .none⟩=some (.int .i64 0):=hE1.cell 1;have e2:w1.cell? ⟨E,2, .none⟩=some (.int .i64 0):=hE1.cell 2;have e3:w1.cell? ⟨E,3, .none⟩=some (.int .i64 0):=hE1.cell 3;have e4:w1.cell? ⟨E,4, .none⟩=some (.int .i64 0):=hE1.cell 4;have ef:=rowFree hE1;have lE:=hE1.lt) | fail)
 have hF:RowAt (((((w1.setCell ⟨E,0, .none⟩ (.bool bl)).setCell ⟨E,1, .none⟩ (.int .i64 bp)).setCell ⟨E,2, .none⟩ (.int .i64 bs)).setCell ⟨E,3, .none⟩ (.int .i64 bk)).setCell ⟨E,4, .none⟩ (.int .i64 bn)) E #[.bool bl, .int .i64 bp, .int .i64 bs, .int .i64 bk, .int .i64 bn] 263:=(((((hE1.set 0 (.bool bl)).set 1 (.int .i64 bp)).set 2 (.int .i64 bs)).set 3 (.int .i64 bk)).set 4 (.int .i64 bn))
 have hbF:Below w.heap.size w (((((w1.setCell ⟨E,0, .none⟩ (.bool bl)).setCell ⟨E,1, .none⟩ (.int .i64 bp)).setCell ⟨E,2, .none⟩ (.int .i64 bs)).setCell ⟨E,3, .none⟩ (.int .i64 bk)).setCell ⟨E,4, .none⟩ (.int .i64 bn)):=((((((belowTrans hb0 hb1).setCell (p:=⟨E,0, .none⟩) hEw (.bool bl)).setCell (p:=⟨E,1, .none⟩) hEw (.int .i64 bp)).setCell (p:=⟨E,2, .none⟩) hEw (.int .i64 bs)).setCell (p:=⟨E,3, .none⟩) hEw (.int .i64 bk)).setCell (p:=⟨E,4, .none⟩) hEw (.int .i64 bn))
 generalize ((((w1.setCell ⟨E,0, .none⟩ (.bool bl)).setCell ⟨E,1, .none⟩ (.int .i64 bp)).setCell ⟨E,2, .none⟩ (.int .i64 bs)).setCell ⟨E,3, .none⟩ (.int .i64 bk)).setCell ⟨E,4, .none⟩ (.int .i64 bn)=U at *
 have r0:U.cell? ⟨E,0, .none⟩=some (.bool bl):=hF.cell 0
 have r1:U.cell? ⟨E,1, .none⟩=some (.int .i64 bp):=hF.cell 1
 have r2:U.cell? ⟨E,2, .none⟩=some (.int .i64 bs):=hF.cell 2
 have r3:U.cell? ⟨E,3, .none⟩=some (.int .i64 bk):=hF.cell 3
 have r4:U.cell? ⟨E,4, .none⟩=some (.int .i64 bn):=hF.cell 4
 exact bodyPost_ret (v:= .tuple #[.agg #[.bool bl, .int .i64 bp, .int .i64 bs, .int .i64 bk, .int .i64 bn], .bool gok]) (by simp [results,Tryz.results293,go_sem,r0,r1,r2,r3,r4]) rfl ⟨rfl,hbF⟩
end Go.Proofs.YtampacmmhhilaaaGreat
/- A Malloc in memory: who owns what, its methods that only look. -/
namespace Go.Proofs.YtampacmmhhilaaaGreat

open Go.RowKit

attribute [local go_sem ↓] Go.wp_at_zero Go.wp_at_succ

def malCells (s:Sh) (cl:Int) (v1 v2:Value):Array Value:= #[v1,v2, .int .i64 s.p, .int .i64 s.c, .int .i64 s.m, .int .i64 cl]
/-- A Malloc whose blocks are in F. -/
def MalO (F:Nat→Prop) (w:World) (q:Nat) (s:Sh) (cl:Int) (r:Rs) (c:Option Cm):Prop:=
 (∀ k,F k→k < w.heap.size)∧F q∧∃ q1 q2 F1,(∀ k,F1 k→F k∧k≠q)∧RowAt w q (malCells s cl (.pointer (some ⟨q1,0, .none⟩)) (ptrV c q2)) 232∧RsO F1 w q1 s r∧
  (∀ x,c=some x→(F q2∧q2≠q∧¬ F1 q2)∧RowAt w q2 (cmCells s x) 310)
theorem MalO.only {F G:Nat→Prop} {w w':World} {q:Nat} {s:Sh} {cl:Int} {r:Rs} {c:Option Cm} (h:MalO F w q s cl r c) (ho:Only G w w') (hd:∀ k,F k→¬ G k):MalO F w' q s cl r c:=by
 obtain ⟨hF,h1,q1,q2,F1,hF1,hrow,hr,hc⟩:=h
 exact ⟨fun k hk=> Nat.lt_of_lt_of_le (hF k hk) ho.size,h1,q1,q2,F1,hF1,hrow.only ho (hd q h1),hr.only ho (fun k hk=> hd k (hF1 k hk).1),fun x hx=> ⟨(hc x hx).1,(hc x hx).2.only ho (hd q2 (hc x hx).1.1)⟩⟩
theorem cmd_any {q2:Nat} {s:Sh} {c:Option Cm} {w:World} (h:∀ x,c=some x→RowAt w q2 (cmCells s x) 310):Calls Tryz.prog 195 #[ptrV c q2] w fun e w'=> e= .returned (.bool (cmEnded c))∧w'=w:=by
 rcases c with _ | u
 ·exact cmdone_any_nil w
 ·exact cmdone_any q2 _ u.done w (h u rfl) rfl
set_option maxHeartbeats 2000000 in
theorem maldone_any {F:Nat→Prop} {q:Nat} {s:Sh} {cl:Int} {r:Rs} {c:Option Cm} {w:World} (h:MalO F w q s cl r c):
  Calls Tryz.prog 253 #[.pointer (some ⟨q,0, .none⟩)] w fun e w'=> e= .returned (.bool (Jb.mal r c).done)∧Below w.heap.size w w':=by
 obtain ⟨hF,h1,q1,q2,F1,hF1,hrow,hr,hc⟩:=h
 have hlt:q < w.heap.size:=hF q h1
 have c0:w.cell? ⟨q,0, .none⟩=some (.pointer (some ⟨q1,0, .none⟩)):=hrow.cell 0
 have hfo:=Lib.hid (rsfound_any hr)
 have hdn:=Lib.hid (fun Y (hY:Below w.heap.size w Y)=> rsdone_any (hr.bel hY))
 have hcd:=Lib.hid (fun Y (hY:Below w.heap.size w Y)=> cmd_any (fun x hx=> ((hc x hx).2.below hY)))
 have hk:=Lib.hid (fun Y (hY:Below w.heap.size w Y)=> (⟨(hrow.below hY).cell 0,(hrow.below hY).cell 1⟩:Y.cell? ⟨q,0, .none⟩=some (.pointer (some ⟨q1,0, .none⟩))∧Y.cell? ⟨q,1, .none⟩=some (ptrV c q2)))
 have hres:(Jb.mal r c).done=(r.done && (!r.got.isSome || cmEnded c)):=rfl
 rw [hres]
 clear h1 hF hF1 hrow hr hc hres
 obtain ⟨⟨bl,bp,bs,bk,bn⟩,hb⟩:∃ b,b=r.got.getD Blk.zero:=⟨_,rfl⟩
 unfold gotV at hfo
 rw [← hb] at hfo
 dsimp only [blkCells] at hfo
 clear hb
 generalize r.got.isSome=oks at *
 generalize r.done=rd at *
 generalize cmEnded c=ce at *
 generalize ptrV c q2=pv at *
 go_enter Tryz.func253,Tryz.ntmps253
 go_upto_region 2 with (first | (go_at_call 193;(with_reducible refine hfo.out.mono ?_);rintro r w1 ⟨rfl,hb1⟩) | fail)
 have hbX:=hb1.trans ((Below.refl w.heap.size w1).alloc hb1.size (.cells #[.bool bl, .int .i64 bp, .int .i64 bs, .int .i64 bk, .int .i64 bn] 263))
 generalize w1.alloc (.cells #[.bool bl, .int .i64 bp, .int .i64 bs, .int .i64 bk, .int .i64 bn] 263)=X at *
 have gdn:=Lib.hid (hdn.out X hbX)
 have gcd:=Lib.hid (hcd.out X hbX)
 obtain ⟨k0,k1⟩:=hk.out X hbX
 have lX:q < X.heap.size:=Nat.lt_of_lt_of_le hlt hbX.size
 clear hdn hcd hfo c0 hlt hk
 cases rd
 case false=>
  go_wp2_with (first | (go_at_call 196;(with_reducible refine gdn.out.mono ?_);rintro r w2 ⟨rfl,hw2⟩;obtain rfl:=hw2.symm) | fail)
  go_returns
  exact ⟨rfl,hbX⟩
 case true=>
  cases oks
  case false=>
   go_wp2_with (first | (go_at_call 196;(with_reducible refine gdn.out.mono ?_);rintro r w2 ⟨rfl,hw2⟩;obtain rfl:=hw2.symm) | fail)
   go_returns
   exact ⟨rfl,hbX⟩
  case true=>
   cases ce
   all_goals
    go_wp2_with (first
     | (go_at_call 196;(with_reducible refine gdn.out.mono ?_);rintro r w2 ⟨rfl,hw2⟩;obtain rfl:=hw2.symm)
     | (go_at_call 195;(with_reducible refine gcd.out.mono ?_);rintro r w3 ⟨rfl,hw3⟩;obtain rfl:=hw3.symm) | fail)
    go_returns
    exact ⟨rfl,hbX⟩
set_option maxHeartbeats 2000000 in
theorem malerr_any {F:Nat→Prop} {q:Nat} {s:Sh} {cl:Int} {r:Rs} {c:Option Cm} {w:World} (h:MalO F w q s cl r c):
  Calls Tryz.prog 255 #[.pointer (some ⟨q,0, .none⟩)] w fun e w'=> e= .returned (.int .i64 (Jb.mal r c).err)∧Below w.heap.size w w':=by
 obtain ⟨hF,h1,q1,q2,F1,hF1,hrow,hr,hc⟩:=h
 have hlt:q < w.heap.size:=hF q h1
 have c0:w.cell? ⟨q,0, .none⟩=some (.pointer (some ⟨q1,0, .none⟩)):=hrow.cell 0
 have hfo:=Lib.hid (rsfound_any hr)
 have hres:(Jb.mal r c).err=if r.got.isSome=true then 0 else 3:=rfl
 rw [hres]
 clear h1 hF hF1 hrow hr hc hres
 obtain ⟨⟨bl,bp,bs,bk,bn⟩,hb⟩:∃ b,b=r.got.getD Blk.zero:=⟨_,rfl⟩
 unfold gotV at hfo
 rw [← hb] at hfo
 dsimp only [blkCells] at hfo
 clear hb
 generalize r.got.isSome=oks at *
 go_enter Tryz.func255,Tryz.ntmps255
 go_upto_region 2 with (first | (go_at_call 193;(with_reducible refine hfo.out.mono ?_);rintro r w1 ⟨rfl,hb1⟩) | fail)
 have hbX:=hb1.trans ((Below.refl w.heap.size w1).alloc hb1.size (.cells #[.bool bl, .int .i64 bp, .int .i64 bs, .int .i64 bk, .int .i64 bn] 263))
 generalize w1.alloc (.cells #[.bool bl, .int .i64 bp, .int .i64 bs, .int .i64 bk, .int .i64 bn] 263)=X at *
 cases oks
 all_goals
  go_wp2_with fail
  go_returns
  exact ⟨rfl,hbX⟩
theorem malgave_any (v:Value) (w:World):
  Calls Tryz.prog 256 #[v] w fun e w'=> e= .returned (.bool false)∧w'=w:=by
 go_enter Tryz.func256,Tryz.ntmps256
 go_wp2_with fail
 go_returns
 exact ⟨rfl,rfl⟩
end Go.Proofs.YtampacmmhhilaaaGreat
/- A Malloc in memory: what it took; its Step. -/
namespace Go.Proofs.YtampacmmhhilaaaGreat

open Go.RowKit

attribute [local go_sem ↓] Go.wp_at_zero Go.wp_at_succ

set_option maxRecDepth 100000 in
set_option maxHeartbeats 4000000 in
theorem maltook_any {F:Nat→Prop} {q:Nat} {s:Sh} {cl:Int} {r:Rs} {c:Option Cm} {w:World} (h:MalO F w q s cl r c):
  Calls Tryz.prog 257 #[.pointer (some ⟨q,0, .none⟩)] w fun e w'=> e= .returned (gotV (Jb.mal r c).took)∧Below w.heap.size w w':=by
 obtain ⟨hF,h1,q1,q2,F1,hF1,hrow,hr,hc⟩:=h
 have hlt:q < w.heap.size:=hF q h1
 have hfo:=Lib.hid (fun Y (hY:Below w.heap.size w Y)=> rsfound_any (hr.bel hY))
 have hcd:=Lib.hid (fun Y (hY:Below w.heap.size w Y)=> cmd_any (fun x hx=> ((hc x hx).2.below hY)))
 have hk:=Lib.hid (fun Y (hY:Below w.heap.size w Y)=> (⟨(hrow.below hY).cell 0,(hrow.below hY).cell 1⟩:Y.cell? ⟨q,0, .none⟩=some (.pointer (some ⟨q1,0, .none⟩))∧Y.cell? ⟨q,1, .none⟩=some (ptrV c q2)))
 have hres:(Jb.mal r c).took=if cmEnded c=true then r.got else none:=rfl
 obtain ⟨tk,htk,htk'⟩:∃ t,Hid (t=(Jb.mal r c).took)∧t=(Jb.mal r c).took:=⟨_,Lib.hid rfl,rfl⟩
 rw [← htk']
 clear htk'
 rw [hres] at htk
 clear h1 hF hF1 hrow hr hc hres
 obtain ⟨⟨bl,bp,bs,bk,bn⟩,hb⟩:∃ b,b=r.got.getD Blk.zero:=⟨_,rfl⟩
 obtain ⟨oks,hoks⟩:∃ o,o=r.got.isSome:=⟨_,rfl⟩
 have hval:(oks=false∧gotV tk= .tuple #[.agg #[.bool false, .int .i64 0, .int .i64 0, .int .i64 0, .int .i64 0], .bool false])∨(oks=true∧cmEnded c=false∧gotV tk= .tuple #[.agg #[.bool false, .int .i64 0, .int .i64 0, .int .i64 0, .int .i64 0], .bool false])∨(oks=true∧cmEnded c=true∧gotV tk= .tuple #[.agg #[.bool bl, .int .i64 bp, .int .i64 bs, .int .i64 bk, .int .i64 bn], .bool true]):=by
  rcases hg:r.got with _ | ⟨gl,gp,gs,gk,gn⟩
  ·rw [hg] at htk hoks
   exact .inl ⟨hoks,by rw [htk.out];split <;> rfl⟩
  ·rw [hg] at htk hoks hb
   have hb':(⟨bl,bp,bs,bk,bn⟩:Blk)=⟨gl,gp,gs,gk,gn⟩:=hb
   cases hce:cmEnded c
   ·exact .inr (.inl ⟨hoks,rfl,by rw [htk.out,hce];rfl⟩)
   ·exact .inr (.inr ⟨hoks,rfl,by rw [htk.out,hce,if_pos rfl,← hb'];rfl⟩)
 unfold gotV at hfo
 rw [← hb,← hoks] at hfo
 dsimp only [blkCells] at hfo
 clear hb hoks htk
 generalize cmEnded c=ce at *
 generalize ptrV c q2=pv at *
 have hb0:=(Below.refl w.heap.size w).alloc (Nat.le_refl _) (.cells #[.bool false, .int .i64 0, .int .i64 0, .int .i64 0, .int .i64 0] 263)
 have hE:RowAt (w.alloc (.cells #[.bool false, .int .i64 0, .int .i64 0, .int .i64 0, .int .i64 0] 263)) w.heap.size #[.bool false, .int .i64 0, .int .i64 0, .int .i64 0, .int .i64 0] 263:=heap_alloc_new _ _
 go_enter Tryz.func257,Tryz.ntmps257
 go_upto_region 1 with fail
 generalize w.alloc (.cells #[.bool false, .int .i64 0, .int .i64 0, .int .i64 0, .int .i64 0] 263)=X0 at *
 obtain ⟨E,hEE,hEE'⟩:∃ E,Hid (E=w.heap.size)∧E=w.heap.size:=⟨_,Lib.hid rfl,rfl⟩
 rw [← hEE'] at hE ⊢
 have hEw:w.heap.size≤E:=by omega
 have hqE:q≠E:=by omega
 clear hEE'
 obtain ⟨k0,k1⟩:=hk.out X0 hb0
 have lq0:q < X0.heap.size:=Nat.lt_of_lt_of_le hlt hb0.size
 have hfo0:=Lib.hid (hfo.out X0 hb0)
 go_upto_region 2 with (first | (go_at_call 193;(with_reducible refine hfo0.out.mono ?_);rintro r w1 ⟨rfl,hb1⟩) | fail)
 have hE1:=hE.below hb1
 have hbW:=belowTrans hb0 hb1
 have hbX:=hbW.trans ((Below.refl w.heap.size w1).alloc hbW.size (.cells #[.bool bl, .int .i64 bp, .int .i64 bs, .int .i64 bk, .int .i64 bn] 263))
 have hE2:=hE1.alloc (.cells #[.bool bl, .int .i64 bp, .int .i64 bs, .int .i64 bk, .int .i64 bn] 263)
 have hG:RowAt (w1.alloc (.cells #[.bool bl, .int .i64 bp, .int .i64 bs, .int .i64 bk, .int .i64 bn] 263)) w1.heap.size #[.bool bl, .int .i64 bp, .int .i64 bs, .int .i64 bk, .int .i64 bn] 263:=heap_alloc_new _ _
 have hGE:w1.heap.size≠E:=fun e=> by have:=hE1.lt;omega
 generalize w1.alloc (.cells #[.bool bl, .int .i64 bp, .int .i64 bs, .int .i64 bk, .int .i64 bn] 263)=X at *
 obtain ⟨G,hGG,hGG'⟩:∃ G,Hid (G=w1.heap.size)∧G=w1.heap.size:=⟨_,Lib.hid rfl,rfl⟩
 rw [← hGG'] at hG hGE ⊢
 clear hGG' k0 k1 lq0
 have gcd:=Lib.hid (hcd.out X hbX)
 obtain ⟨k0,k1⟩:=hk.out X hbX
 have lX:q < X.heap.size:=Nat.lt_of_lt_of_le hlt hbX.size
 have lE:E < X.heap.size:=hE2.lt
 have lG:G < X.heap.size:=hG.lt
 have fE:=rowFree hE2
 have e0:X.cell? ⟨E,0, .none⟩=some (.bool false):=hE2.cell 0
 have e1:X.cell? ⟨E,1, .none⟩=some (.int .i64 0):=hE2.cell 1
 have e2:X.cell? ⟨E,2, .none⟩=some (.int .i64 0):=hE2.cell 2
 have e3:X.cell? ⟨E,3, .none⟩=some (.int .i64 0):=hE2.cell 3
 have e4:X.cell? ⟨E,4, .none⟩=some (.int .i64 0):=hE2.cell 4
 have g0:X.cell? ⟨G,0, .none⟩=some (.bool bl):=hG.cell 0
 have g1:X.cell? ⟨G,1, .none⟩=some (.int .i64 bp):=hG.cell 1
 have g2:X.cell? ⟨G,2, .none⟩=some (.int .i64 bs):=hG.cell 2
 have g3:X.cell? ⟨G,3, .none⟩=some (.int .i64 bk):=hG.cell 3
 have g4:X.cell? ⟨G,4, .none⟩=some (.int .i64 bn):=hG.cell 4
 clear hcd hfo hfo0 hlt hk hb0 hb1 hE hE1 hbW
 replace hval:=Lib.hid hval
 have hfinE:∀ (U:World) (x0:Bool) (x1 x2 x3 x4:Int),U=(((((X.setCell ⟨E,0, .none⟩ (.bool x0)).setCell ⟨E,1, .none⟩ (.int .i64 x1)).setCell ⟨E,2, .none⟩ (.int .i64 x2)).setCell ⟨E,3, .none⟩ (.int .i64 x3)).setCell ⟨E,4, .none⟩ (.int .i64 x4))→RowAt U E #[.bool x0, .int .i64 x1, .int .i64 x2, .int .i64 x3, .int .i64 x4] 263∧Below w.heap.size w U:=fun U x0 x1 x2 x3 x4 hU=> by
  subst hU
  exact ⟨(((((hE2.set 0 (.bool x0)).set 1 (.int .i64 x1)).set 2 (.int .i64 x2)).set 3 (.int .i64 x3)).set 4 (.int .i64 x4)),(((((hbX.setCell (p:=⟨E,0, .none⟩) hEw (.bool x0)).setCell (p:=⟨E,1, .none⟩) hEw (.int .i64 x1)).setCell (p:=⟨E,2, .none⟩) hEw (.int .i64 x2)).setCell (p:=⟨E,3, .none⟩) hEw (.int .i64 x3)).setCell (p:=⟨E,4, .none⟩) hEw (.int .i64 x4))⟩
 replace hfinE:=Lib.hid hfinE
 rcases hval.out with ⟨rfl,hv⟩ | ⟨rfl,rfl,hv⟩ | ⟨rfl,rfl,hv⟩
 case inl=>
  replace hv:=Lib.hid hv
  go_wp2_with fail
  obtain ⟨hF,hbF⟩:=hfinE.out _ _ _ _ _ _ rfl
  generalize ((((X.setCell ⟨E,0, .none⟩ (.bool false)).setCell ⟨E,1, .none⟩ (.int .i64 0)).setCell ⟨E,2, .none⟩ (.int .i64 0)).setCell ⟨E,3, .none⟩ (.int .i64 0)).setCell ⟨E,4, .none⟩ (.int .i64 0)=U at *
  have r0:U.cell? ⟨E,0, .none⟩=some (.bool false):=hF.cell 0
  have r1:U.cell? ⟨E,1, .none⟩=some (.int .i64 0):=hF.cell 1
  have r2:U.cell? ⟨E,2, .none⟩=some (.int .i64 0):=hF.cell 2
  have r3:U.cell? ⟨E,3, .none⟩=some (.int .i64 0):=hF.cell 3
  have r4:U.cell? ⟨E,4, .none⟩=some (.int .i64 0):=hF.cell 4
  exact bodyPost_ret (v:= .tuple #[.agg #[.bool false, .int .i64 0, .int .i64 0, .int .i64 0, .int .i64 0], .bool false]) (by simp [results,Tryz.results257,go_sem,r0,r1,r2,r3,r4]) rfl ⟨by rw [hv.out],hbF⟩
 case inr.inl=>
  replace hv:=Lib.hid hv
  go_wp2_with (first | (go_at_call 195;(with_reducible refine gcd.out.mono ?_);rintro r w3 ⟨rfl,hw3⟩;obtain rfl:=hw3.symm) | fail)
  obtain ⟨hF,hbF⟩:=hfinE.out _ _ _ _ _ _ rfl
  generalize ((((X.setCell ⟨E,0, .none⟩ (.bool false)).setCell ⟨E,1, .none⟩ (.int .i64 0)).setCell ⟨E,2, .none⟩ (.int .i64 0)).setCell ⟨E,3, .none⟩ (.int .i64 0)).setCell ⟨E,4, .none⟩ (.int .i64 0)=U at *
  have r0:U.cell? ⟨E,0, .none⟩=some (.bool false):=hF.cell 0
  have r1:U.cell? ⟨E,1, .none⟩=some (.int .i64 0):=hF.cell 1
  have r2:U.cell? ⟨E,2, .none⟩=some (.int .i64 0):=hF.cell 2
  have r3:U.cell? ⟨E,3, .none⟩=some (.int .i64 0):=hF.cell 3
  have r4:U.cell? ⟨E,4, .none⟩=some (.int .i64 0):=hF.cell 4
  exact bodyPost_ret (v:= .tuple #[.agg #[.bool false, .int .i64 0, .int .i64 0, .int .i64 0, .int .i64 0], .bool false]) (by simp [results,Tryz.results257,go_sem,r0,r1,r2,r3,r4]) rfl ⟨by rw [hv.out],hbF⟩
 case inr.inr=>
  replace hv:=Lib.hid hv
  go_wp2_with (first | (go_at_call 195;(with_reducible refine gcd.out.mono ?_);rintro r w3 ⟨rfl,hw3⟩;obtain rfl:=hw3.symm) | fail)
  obtain ⟨hF,hbF⟩:=hfinE.out _ bl bp bs bk bn rfl
  generalize ((((X.setCell ⟨E,0, .none⟩ (.bool bl)).setCell ⟨E,1, .none⟩ (.int .i64 bp)).setCell ⟨E,2, .none⟩ (.int .i64 bs)).setCell ⟨E,3, .none⟩ (.int .i64 bk)).setCell ⟨E,4, .none⟩ (.int .i64 bn)=U at *
  have r0:U.cell? ⟨E,0, .none⟩=some (.bool bl):=hF.cell 0
  have r1:U.cell? ⟨E,1, .none⟩=some (.int .i64 bp):=hF.cell 1
  have r2:U.cell? ⟨E,2, .none⟩=some (.int .i64 bs):=hF.cell 2
  have r3:U.cell? ⟨E,3, .none⟩=some (.int .i64 bk):=hF.cell 3
  have r4:U.cell? ⟨E,4, .none⟩=some (.int .i64 bn):=hF.cell 4
  exact bodyPost_ret (v:= .tuple #[.agg #[.bool bl, .int .i64 bp, .int .i64 bs, .int .i64 bk, .int .i64 bn], .bool true]) (by simp [results,Tryz.results257,go_sem,r0,r1,r2,r3,r4]) rfl ⟨by rw [hv.out],hbF⟩
end Go.Proofs.YtampacmmhhilaaaGreat
/- A Malloc in memory: its Step. -/
namespace Go.Proofs.YtampacmmhhilaaaGreat

open Go.RowKit

attribute [local go_sem ↓] Go.wp_at_zero Go.wp_at_succ

theorem MalO.resStep {F:Nat→Prop} {q p b:Nat} {s:Sh} {cl:Int} {r:Rs} {c:Option Cm} {m:Mem} {w:World} (h:MalO F w q s cl r c) (hw:WdsAt w p b m) (hp:¬ F p) (hb:¬ F b) (hf:Fits s m) (ho:(∀ x,r.seeker=some x→skOk s x)∧(∀ x,r.runner=some x→rnOk s x)) (hs:m.st < 1000000000):
  ∃ q1,w.cell? ⟨q,0, .none⟩=some (.pointer (some ⟨q1,0, .none⟩))∧(Calls Tryz.prog 196 #[.pointer (some ⟨q1,0, .none⟩)] w fun e w'=> e= .returned (.bool r.done)∧w'=w)∧
   Calls Tryz.prog 258 #[.pointer (some ⟨q1,0, .none⟩), .pointer (some ⟨p,0, .none⟩)] w fun e w'=> OStep F p b w w' e (rsStep s r m).2∧MalO (grow F w w') w' q s cl (rsStep s r m).1 c:=by
 obtain ⟨hF,h1,q1,q2,F1,hF1,hrow,hr,hc⟩:=h
 refine ⟨q1,hrow.cell 0,rsdone_any hr,(rsstep_any hr hw (fun e=> hp (hF1 p e).1) (fun e=> hb (hF1 b e).1) hf ho hs).mono fun e w' hS=> ?_⟩
 obtain ⟨hO,hR⟩:=hS
 have hsz:=hO.only.size
 have hq:¬ (F1 q∨q=p∨q=b):=by
  rintro (e | e | e)
  ·exact (hF1 q e).2 rfl
  ·exact hp (e ▸ h1)
  ·exact hb (e ▸ h1)
 have hout:∀ k,F k→¬ F1 k→¬ (F1 k∨k=p∨k=b):=fun k hk hk1 e=> by
  rcases e with e | e | e
  ·exact hk1 e
  ·exact hp (e ▸ hk)
  ·exact hb (e ▸ hk)
 have hng:∀ k,F k→¬ F1 k→¬ grow F1 w w' k:=fun k hk hk1 e=> by
  rcases e with e | e
  ·exact hk1 e
  ·have:=hF k hk;omega
 refine ⟨⟨hO.ret,hO.wds,hO.only.weak fun k hk=> hk.imp (fun e=> (hF1 k e).1) id⟩,grow_lt hF hsz, .inl h1,q1,q2,grow F1 w w',fun k hk=> ?_,hrow.only hO.only hq,hR,?_⟩
 ·rcases hk with hk | hk
  ·exact ⟨.inl (hF1 k hk).1,(hF1 k hk).2⟩
  ·exact ⟨.inr hk,fun e=> by have:=hF q h1;omega⟩
 ·intro x hx
  obtain ⟨⟨a1,a2,a3⟩,a4⟩:=hc x hx
  exact ⟨⟨.inl a1,a2,hng _ a1 a3⟩,a4.only hO.only (hout _ a1 a3)⟩
set_option maxRecDepth 100000 in
set_option maxHeartbeats 4000000 in
theorem malstep_any {F:Nat→Prop} {q p b:Nat} {s:Sh} {cl:Int} {r:Rs} {c:Option Cm} {m:Mem} {w:World} (h:MalO F w q s cl r c) (hw:WdsAt w p b m) (hp:¬ F p) (hb:¬ F b) (hf:Fits s m) (ho:(∀ x,r.seeker=some x→skOk s x)∧(∀ x,r.runner=some x→rnOk s x)) (hs:m.st < 1000000000)
  (hcase:r.done=false∨(r.done=true∧c=none∧∃ b,r.got=some b)):
  Calls Tryz.prog 254 #[.pointer (some ⟨q,0, .none⟩), .pointer (some ⟨p,0, .none⟩)] w fun e w'=> OStep F p b w w' e (Jb.step s cl m (.mal r c)).2∧∃ r' c',(Jb.step s cl m (.mal r c)).1= .mal r' c'∧MalO (grow F w w') w' q s cl r' c':=by
 obtain ⟨q1,c0,hdn,hst⟩:=h.resStep hw hp hb hf ho hs
 rcases hcase with hrd | ⟨hrd,rfl,⟨bl,bp,bs,bk,bn⟩,hg⟩
 ·have hr:Jb.step s cl m (.mal r c)=(.mal (rsStep s r m).1 c,(rsStep s r m).2):=by unfold Jb.step;dsimp only;rw [if_pos hrd]
  rw [hr]
  rw [hrd] at hdn
  replace hdn:=Lib.hid hdn
  replace hst:=Lib.hid hst
  have hfin:∀ (e:Ending) (w3:World),OStep F p b w w3 e (rsStep s r m).2∧MalO (grow F w w3) w3 q s cl (rsStep s r m).1 c→OStep F p b w w3 e (rsStep s r m).2∧∃ r' c',(Jb.mal (rsStep s r m).1 c,(rsStep s r m).2).1= .mal r' c'∧MalO (grow F w w3) w3 q s cl r' c':=fun e w3 hh=> ⟨hh.1,_,_,rfl,hh.2⟩
  replace hfin:=Lib.hid hfin
  dsimp only at hfin ⊢
  have lq:q < w.heap.size:=h.1 q h.2.1
  clear h hr hw hp hb hf ho hs hrd
  go_enter Tryz.func254,Tryz.ntmps254
  go_wp2_with (first
   | (go_at_call 196;(with_reducible refine hdn.out.mono ?_);rintro r w2 ⟨rfl,hw2⟩;obtain rfl:=hw2.symm)
   | (go_at_call 258;(with_reducible refine hst.out.mono ?_);rintro r w3 hS;obtain rfl:=hS.1.ret)
   | fail)
  go_returns
  exact hfin.out _ _ hS
 ·have hr:Jb.step s cl m (.mal r none)=(.mal r (some (cmStep s (cmNew s cl ⟨bl,bp,bs,bk,bn⟩) m).1),(cmStep s (cmNew s cl ⟨bl,bp,bs,bk,bn⟩) m).2):=by
   unfold Jb.step;dsimp only;rw [if_neg (by rw [hrd];decide)]
   have:malCom s cl r none=some (cmNew s cl ⟨bl,bp,bs,bk,bn⟩):=by unfold malCom;rw [hg]
   rw [this]
  rw [hr]
  rw [hrd] at hdn
  replace hdn:=Lib.hid hdn
  clear hst hr
  obtain ⟨hF,h1,q1',q2,F1,hF1,hrow,hrs,_⟩:=h
  have eq1:q1'=q1:=by
   have:=(hrow.cell 0).symm.trans c0
   simpa [malCells] using this
  subst eq1
  have lq:q < w.heap.size:=hF q h1
  have hfo:=rsfound_any hrs
  rw [hg] at hfo
  replace hfo:Calls Tryz.prog 193 #[.pointer (some ⟨q1',0, .none⟩)] w fun e w'=> e= .returned (.tuple #[.agg #[.bool bl, .int .i64 bp, .int .i64 bs, .int .i64 bk, .int .i64 bn], .bool true])∧Below w.heap.size w w':=hfo
  replace hfo:=Lib.hid hfo
  have gn:=fun W=> cmnew_any s cl ⟨bl,bp,bs,bk,bn⟩ W
  dsimp only at gn
  have hcs:=fun Y q6 (hY:RowAt Y q6 (cmCells s (cmNew s cl ⟨bl,bp,bs,bk,bn⟩)) 310) (hwY:WdsAt Y p b m) (h6p:q6≠p) (h6b:q6≠b)=> cmstep_any q6 p b s (cmNew s cl ⟨bl,bp,bs,bk,bn⟩) m Y hY hwY h6p h6b hf (cmNew_ok _ _ _) hs
  have hpl:=hw.ltp
  have hbl:=hw.ltb
  have hqp:q≠p:=fun e=> hp (e ▸ h1)
  have hqb:q≠b:=fun e=> hb (e ▸ h1)
  have hfin:∀ (w4 w6:World) (e:Ending) (q6:Nat),Below w.heap.size w w4→w4.heap.size≤w6.heap.size→RowAt w6 q (malCells s cl (.pointer (some ⟨q1',0, .none⟩)) (.pointer (some ⟨q6,0, .none⟩))) 232→w.heap.size≤q6→RowAt w6 q6 (cmCells s (cmStep s (cmNew s cl ⟨bl,bp,bs,bk,bn⟩) m).1) 310→WdsAt w6 p b (cmStep s (cmNew s cl ⟨bl,bp,bs,bk,bn⟩) m).2→Only (fun k=> k=q∨k=p∨k=b) w w6→
    OStep F p b w w6 (.returned (.tuple #[])) (cmStep s (cmNew s cl ⟨bl,bp,bs,bk,bn⟩) m).2∧∃ r' c',Jb.mal r (some (cmStep s (cmNew s cl ⟨bl,bp,bs,bk,bn⟩) m).1)= .mal r' c'∧MalO (grow F w w6) w6 q s cl r' c':=fun w4 w6 e q6 hb4 hs6 hrow6 hq6 hc6 hw6 hon=> by
   have hsz:=hon.size
   refine ⟨⟨rfl,hw6,hon.weak fun k hk=> ?_⟩,_,_,rfl,grow_lt hF hsz, .inl h1,q1',q6,F1,fun k hk=> ⟨.inl (hF1 k hk).1,(hF1 k hk).2⟩,hrow6,hrs.only hon (fun k hk hh=> ?_),fun x hx=> ?_⟩
   ·rcases hk with rfl | hk | hk
    ·exact .inl h1
    ·exact .inr (.inl hk)
    ·exact .inr (.inr hk)
   ·rcases hh with rfl | rfl | rfl
    ·exact (hF1 _ hk).2 rfl
    ·exact hp (hF1 _ hk).1
    ·exact hb (hF1 _ hk).1
   ·injection hx with hx
    subst hx
    exact ⟨⟨.inr ⟨hq6,hc6.lt⟩,fun e=> by omega,fun e=> by have:=hF _ (hF1 _ e).1;omega⟩,hc6⟩
  generalize cmStep s (cmNew s cl ⟨bl,bp,bs,bk,bn⟩) m=cs6 at *
  generalize cmNew s cl ⟨bl,bp,bs,bk,bn⟩=cm0 at *
  replace hcs:=Lib.hid hcs
  replace hfin:=Lib.hid hfin
  dsimp only at hfin ⊢
  obtain ⟨sp,sc,sm⟩:=s
  dsimp only at gn
  replace gn:=Lib.hid gn
  clear hp hb hf ho hs hrd hg hF h1 hF1 hrs
  go_enter Tryz.func254,Tryz.ntmps254
  go_upto_region 3 with (first
   | (go_at_call 196;(with_reducible refine hdn.out.mono ?_);rintro r w2 ⟨rfl,hw2⟩;obtain rfl:=hw2.symm)
   | (go_at_call 193;(with_reducible refine hfo.out.mono ?_);rintro r w3 ⟨rfl,hb3⟩)
   | fail)
  have hbX:=hb3.trans ((Below.refl w.heap.size w3).alloc hb3.size (.cells #[.bool bl, .int .i64 bp, .int .i64 bs, .int .i64 bk, .int .i64 bn] 263))
  have hEX:RowAt (w3.alloc (.cells #[.bool bl, .int .i64 bp, .int .i64 bs, .int .i64 bk, .int .i64 bn] 263)) w3.heap.size #[.bool bl, .int .i64 bp, .int .i64 bs, .int .i64 bk, .int .i64 bn] 263:=heap_alloc_new _ _
  have hEw:w.heap.size≤w3.heap.size:=hb3.size
  generalize w3.alloc (.cells #[.bool bl, .int .i64 bp, .int .i64 bs, .int .i64 bk, .int .i64 bn] 263)=X at *
  obtain ⟨E,hEE,hEE'⟩:∃ E,Hid (E=w3.heap.size)∧E=w3.heap.size:=⟨_,Lib.hid rfl,rfl⟩
  simp only [← hEE'] at hEX hEw ⊢
  have hqE:q≠E:=by omega
  clear hEE' hEE hb3 c0 hfo hdn
  have hrX:RowAt X q (malCells ⟨sp,sc,sm⟩ cl (.pointer (some ⟨q1',0, .none⟩)) (.pointer none)) 232:=hrow.below hbX
  have hwX:=hw.below hbX
  have lX:q < X.heap.size:=hrX.lt
  have x0:X.cell? ⟨q,0, .none⟩=some (.pointer (some ⟨q1',0, .none⟩)):=hrX.cell 0
  have x1:X.cell? ⟨q,1, .none⟩=some (.pointer none):=hrX.cell 1
  go_upto_region 4 with fail
  have hrd:=hrX.drew
  have hEd:=hEX.drew
  have hwd:=hwX.drew
  have hbd:=hbX.drew
  clear x0 x1 lX
  have lX:q < X.drew.heap.size:=hrd.lt
  have lE:E < X.drew.heap.size:=hEd.lt
  have hS:=Lib.hid (fun (Y:World) (v:Value) (h:RowAt Y q (malCells ⟨sp,sc,sm⟩ cl (.pointer (some ⟨q1',0, .none⟩)) v) 232) (h2:RowAt Y E #[.bool bl, .int .i64 bp, .int .i64 bs, .int .i64 bk, .int .i64 bn] 263)=> (⟨h.cell 2,h.cell 3,h.cell 4,h.cell 5,h2.cell 0,h2.cell 1,h2.cell 2,h2.cell 3,h2.cell 4⟩:Y.cell? ⟨q,2, .none⟩=some (.int .i64 sp)∧Y.cell? ⟨q,3, .none⟩=some (.int .i64 sc)∧Y.cell? ⟨q,4, .none⟩=some (.int .i64 sm)∧Y.cell? ⟨q,5, .none⟩=some (.int .i64 cl)∧Y.cell? ⟨E,0, .none⟩=some (.bool bl)∧Y.cell? ⟨E,1, .none⟩=some (.int .i64 bp)∧Y.cell? ⟨E,2, .none⟩=some (.int .i64 bs)∧Y.cell? ⟨E,3, .none⟩=some (.int .i64 bk)∧Y.cell? ⟨E,4, .none⟩=some (.int .i64 bn)))
  go_region_held3 (fun Y=> Y.cell? ⟨q,2, .none⟩=some (.int .i64 sp)∧Y.cell? ⟨q,3, .none⟩=some (.int .i64 sc)∧Y.cell? ⟨q,4, .none⟩=some (.int .i64 sm)∧Y.cell? ⟨q,5, .none⟩=some (.int .i64 cl)∧Y.cell? ⟨E,0, .none⟩=some (.bool bl)∧Y.cell? ⟨E,1, .none⟩=some (.int .i64 bp)∧Y.cell? ⟨E,2, .none⟩=some (.int .i64 bs)∧Y.cell? ⟨E,3, .none⟩=some (.int .i64 bk)∧Y.cell? ⟨E,4, .none⟩=some (.int .i64 bn))
   (first | exact hS.out _ _ hrd hEd | exact hS.out _ _ hC hE6 | exact hS.out _ _ ((hC.set 1 _).cast rfl) (hE6.other (fun e=> hqE e.symm) _ _) | fail)
   (first
    | (go_at_call 199;(with_reducible refine (gn.out _).mono ?_);rintro r w6 ⟨q6,rfl,hq6,hrow6,hb6⟩;have hC:=hrd.below hb6;have hE6:=hEd.below hb6;have z1:w6.cell? ⟨q,1, .none⟩=some (.pointer none):=hC.cell 1;have zf:=rowFree hC)
    | fail)
  have h61:=hb6.size
  have hlw:w.heap.size≤X.drew.heap.size:=hbd.size
  have hq6q:q6≠q:=by omega
  have hq6p:q6≠p:=by omega
  have hq6b:q6≠b:=by omega
  have hw6:=(hwd.below hb6).other hqp hqb 1 (.pointer (some ⟨q6,0, .none⟩))
  have hr6:=(hC.set 1 (.pointer (some ⟨q6,0, .none⟩))).cast (cs':=malCells ⟨sp,sc,sm⟩ cl (.pointer (some ⟨q1',0, .none⟩)) (.pointer (some ⟨q6,0, .none⟩))) rfl
  have hn6:=hrow6.other hq6q 1 (.pointer (some ⟨q6,0, .none⟩))
  have ho6:Only (fun k=> k=q) w (w6.setCell ⟨q,1, .none⟩ (.pointer (some ⟨q6,0, .none⟩))):=Only.setCell (F:=fun k=> k=q) (Only.of_below (belowTrans hbd hb6)) (.inl rfl) _
  have hbz:Below w.heap.size w w6:=belowTrans hbd hb6
  have hsz:w6.heap.size=(w6.setCell ⟨q,1, .none⟩ (.pointer (some ⟨q6,0, .none⟩))).heap.size:=(size_set _ _ _).symm
  clear hC hE6 z1 zf hrd hEd hwd hbd hrow6 hb6 hS hrX hwX hEX
  generalize w6.setCell ⟨q,1, .none⟩ (.pointer (some ⟨q6,0, .none⟩))=Z at *
  have y1:Z.cell? ⟨q,1, .none⟩=some (.pointer (some ⟨q6,0, .none⟩)):=hr6.cell 1
  have lZ:q < Z.heap.size:=hr6.lt
  have hgo:=Lib.hid (hcs.out Z q6 hn6 hw6 hq6p hq6b)
  clear hcs gn
  go_wp2_with (first
   | (go_at_call 259;(with_reducible refine hgo.out.mono ?_);rintro r w8 hSt;obtain rfl:=hSt.ret)
   | fail)
  go_returns
  have hs8:=hSt.only.size
  refine hfin.out w6 _ (.returned (.tuple #[])) q6 hbz (by omega) (hr6.only hSt.only ?_) (by omega) hSt.row hSt.wds ?_
  ·rintro (e | e | e)
   ·exact hq6q e.symm
   ·exact hqp e
   ·exact hqb e
  ·refine (ho6.weak (G:=fun k=> k=q∨k=p∨k=b) (fun k hk=> .inl hk)).trans hSt.only (fun k hk hh=> ?_)
   rcases hh with rfl | hh | hh
   ·omega
   ·exact .inr (.inl hh)
   ·exact .inr (.inr hh)
end Go.Proofs.YtampacmmhhilaaaGreat

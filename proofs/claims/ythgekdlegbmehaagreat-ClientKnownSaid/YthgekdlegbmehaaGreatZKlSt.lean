/- A client's frames, handed out. -/
import Derived.Test.YthgekdlegbmehaaGreatZKlTp

import Derived.Test.YthgekdlegbmehaaGreatBq33

set_option linter.all false
set_option maxHeartbeats 1000000
namespace Go.Proofs.YthgekdlegbmehaaGreat

open Go.RowKit

attribute [local go_sem ↓] Go.wp_at_zero Go.wp_at_succ

theorem klstack_no {F:Nat->Prop} {w:World} {q:Nat} {s:Sh} {k:Kl} (h:KlO F w q s k) (hj:k.job=none):
  Calls Tryz.prog 11 #[.pointer (some ⟨q,0,.none⟩)] w fun e w'=> e= .returned (.slice none 0 0)/\Below w.heap.size w w':=by
 obtain ⟨_,_,sp,sl,jv,G,hrow,hstk,_⟩:=h
 have hfr:zdv k= []:=by unfold zdv;rw [hj]
 rw [hfr] at hstk
 have ht:Calls Tryz.prog 28 #[.pointer (some ⟨sp,0,.none⟩)] w fun e w'=> e= .returned (.tuple #[.agg #[.int .i64 0,.int .i64 0,.int .i64 0,.int .i64 0,.int .i64 0,.int .i64 0,.int .i64 0,.int .i64 0,.int .i64 0,.int .i64 0],.bool false])/\Below w.heap.size w w':=stkTop_any hstk
 have c11:=ce (.pointer (some ⟨sp,0,.none⟩)) (hrow.cell 11)
 have hnil:∀ W:World,(binOp .eql 25 (.pointer (some ⟨q,0,.none⟩)) (.pointer none)).run Tryz.prog W= .ok (.bool false) W:=fun W=> by kernel_rfl
 replace ht:=hd' ht
 clear hrow hstk hfr hj
 go_enter Tryz.func11,Tryz.ntmps11
 go_wp2_with (first | (go_at_call 28;(with_reducible refine ht.out.mono ?_);rintro r w1 ⟨rfl,hb⟩;have hs1:=hb.size) | fail)
 go_returns
 exact ⟨rfl,hb.alloc hs1 _⟩
theorem klstack_yes {F:Nat->Prop} {w:World} {q:Nat} {s:Sh} {k:Kl} {j:Jb} (h:KlO F w q s k) (hj:k.job=some j):
  Calls Tryz.prog 11 #[.pointer (some ⟨q,0,.none⟩)] w fun e w'=> ∃ g,e= .returned (.slice (some ⟨g,0,.none⟩) 1 1)/\w.heap.size<=g/\zaa w' g #[.int .i64 k.op.k,.int .i64 k.steps,.int .i64 k.op.a,.int .i64 k.op.n,.int .i64 0,.int .i64 0,.int .i64 0,.int .i64 0,.int .i64 0,.int .i64 0] 45/\Below w.heap.size w w':=by
 obtain ⟨_,_,sp,sl,jv,G,hrow,hstk,_⟩:=h
 have hfr:zdv k= [⟨k.op.k,k.steps, [k.op.a,k.op.n,0,0,0,0,0,0]⟩]:=by unfold zdv;rw [hj]
 rw [hfr] at hstk
 have ht:Calls Tryz.prog 28 #[.pointer (some ⟨sp,0,.none⟩)] w fun e w'=> e= .returned (.tuple #[.agg #[.int .i64 k.op.k,.int .i64 k.steps,.int .i64 k.op.a,.int .i64 k.op.n,.int .i64 0,.int .i64 0,.int .i64 0,.int .i64 0,.int .i64 0,.int .i64 0],.bool true])/\Below w.heap.size w w':=stkTop_any hstk
 have c11:=ce (.pointer (some ⟨sp,0,.none⟩)) (hrow.cell 11)
 have hnil:∀ W:World,(binOp .eql 25 (.pointer (some ⟨q,0,.none⟩)) (.pointer none)).run Tryz.prog W= .ok (.bool false) W:=fun W=> by kernel_rfl
 replace ht:=hd' ht
 clear hrow hstk hfr hj
 generalize k.op.k=ok at *
 generalize k.op.a=oa at *
 generalize k.op.n=on at *
 generalize k.steps=ks at *
 go_enter Tryz.func11,Tryz.ntmps11
 go_wp2_with (first | (go_at_call 28;(with_reducible refine ht.out.mono ?_);rintro r w1 ⟨rfl,hb⟩;have hs1:=hb.size) | fail)
 go_returns
 have hn:=heap_alloc_new (w1.alloc (.cells #[.int .i64 ok,.int .i64 ks,.int .i64 oa,.int .i64 on,.int .i64 0,.int .i64 0,.int .i64 0,.int .i64 0,.int .i64 0,.int .i64 0] 45)) (.cells #[.int .i64 ok,.int .i64 ks,.int .i64 oa,.int .i64 on,.int .i64 0,.int .i64 0,.int .i64 0,.int .i64 0,.int .i64 0,.int .i64 0] 45)
 rw [size_alloc] at hn
 exact ⟨_,rfl,by omega,hn,(hb.alloc hs1 _).alloc (by rw [size_alloc];omega) _⟩
end Go.Proofs.YthgekdlegbmehaaGreat

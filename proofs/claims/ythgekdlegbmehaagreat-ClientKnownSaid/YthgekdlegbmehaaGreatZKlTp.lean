/- The top frame of a stack, by value. -/
import Derived.Test.YthgekdlegbmehaaGreatBq27

set_option linter.all false
set_option maxHeartbeats 400000
namespace Go.Proofs.YthgekdlegbmehaaGreat

open Go.RowKit

attribute [local go_sem ↓] Go.wp_at_zero Go.wp_at_succ

attribute [local go_sem high] zm6 zml zky

theorem topAddr_nil {B:Nat} {w:World} {s:Nat} {sl:Value} {most:Int} {fs:List Fr} (h:SK B w s sl most fs) (h0:fs.length=0):znp sl fs.length=none:=by
 rcases h.form with ⟨rfl,rfl⟩ | ⟨g,cap,rfl,_⟩
 ·rfl
 ·rw [znp,if_pos h0]
theorem stkTop_any {B:Nat} {w:World} {s:Nat} {sl:Value} {most:Int} {fs:List Fr} (h:SK B w s sl most fs):
  Calls Tryz.prog 28 #[.pointer (some ⟨s,0,.none⟩)] w fun e w'=> e= .returned (.tuple #[.agg (zn7 fs).cells.toArray,.bool (decide (fs.length≠0))])/\Below w.heap.size w w':=by
 by_cases h0:fs.length=0
 ·have ha:=topAddr_nil h h0
  have hfs:=List.eq_nil_of_length_eq_zero h0
  have hta:=fun w' (h:SK B w' s sl most fs)=> (ha ▸ zx5 h)
  subst hfs
  go_enter Tryz.func28,Tryz.ntmps28
  go_wp2_with (go_at_call 43;refine (hta _ (h.below (br.alloc lr _))).mono ?_;rintro e w1 ⟨rfl,nq,rfl⟩)
  refine bodyPost_ret (v:= .tuple #[.agg #[.int .i64 0,.int .i64 0,.int .i64 0,.int .i64 0,.int .i64 0,.int .i64 0,.int .i64 0,.int .i64 0,.int .i64 0,.int .i64 0],.bool false]) (by simp [results,Tryz.results28,go_sem]) rfl ⟨rfl,?_⟩
  iterate 10 refine Below.setCell ?_ (by exact Nat.le_refl _) _
  exact below_drewN (br.alloc lr _) nq
 ·obtain ⟨g,cap,code,pc,r0,r1,r2,r3,r4,r5,r6,r7,hsl,ha,hg,hgs,hB,ht,c0,c1,c2,c3,c4,c5,c6,c7,c8,c9,hcap,hn⟩:=zy6 h h0
  have hta:=fun w' (h:SK B w' s sl most fs)=> (ha ▸ zx5 h)
  clear hsl ha
  go_enter Tryz.func28,Tryz.ntmps28
  go_wp2_with (go_at_call 43;refine (hta _ (h.below (br.alloc lr _))).mono ?_;rintro e w1 ⟨rfl,nq,rfl⟩)
  refine bodyPost_ret (v:= .tuple #[.agg #[.int .i64 code,.int .i64 pc,.int .i64 r0,.int .i64 r1,.int .i64 r2,.int .i64 r3,.int .i64 r4,.int .i64 r5,.int .i64 r6,.int .i64 r7],.bool true]) (by simp [results,Tryz.results28,go_sem]) rfl ⟨by rw [ht];simp [Fr.cells,h0],?_⟩
  iterate 10 refine Below.setCell ?_ (by exact Nat.le_refl _) _
  exact below_drewN (br.alloc lr _) nq
end Go.Proofs.YthgekdlegbmehaaGreat

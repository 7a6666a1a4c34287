/- Package math's makers of floats, package edge's share of one half, and what the laws of layer 1 ask first. -/
import Derived.Test.YtfknaheijidhcaaEdgeW

import Derived.WalkLawsBesides

namespace Go.Proofs.Ytfknaheijidhcaa

open Go.RowKit Fl

set_option maxHeartbeats 400000 in
theorem mathNaN_any (w : World) : Calls Try.prog 28 #[] w fun e w' => e = .returned (F64 9221120237041090561) ∧ w' = w := by
  have hb := run_frombits
  go_enter Try.func28, Try.ntmps28
  go_wp2
  go_ret
  exact ⟨rfl, rfl⟩
set_option maxHeartbeats 400000 in
theorem inf_any (s : Int) (w : World) : Calls Try.prog 72 #[.int .i64 s] w fun e w' => e = .returned (F64 (if 0 ≤ s then 9218868437227405312 else 18442240474082181120)) ∧ w' = w := by
  have hb := run_frombits
  by_cases h : 0 ≤ s
  · rw [if_pos h]
    go_enter Try.func72, Try.ntmps72
    go_wp2
    go_ret
    exact ⟨rfl, rfl⟩
  · rw [if_neg h]
    go_enter Try.func72, Try.ntmps72
    go_wp2
    go_ret
    exact ⟨rfl, rfl⟩
end Go.Proofs.Ytfknaheijidhcaa

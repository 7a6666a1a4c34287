/- The walks of package plan. -/
import Derived.Test.YtclidckjnoafcaaBase

import Derived.Test.YtclidckjnoafcaaPlanP

namespace Go.Proofs.Ytclidckjnoafcaa

open Go.RowKit

set_option maxHeartbeats 400000 in
theorem within_any (n lo hi : Int) (w : World) :
    Calls Try.prog 27 #[.int .i64 n, .int .i64 lo, .int .i64 hi] w fun e w' => e = .returned (.bool (wi n lo hi)) ∧ w' = w := by
  go_enter Try.func27, Try.ntmps27
  go_wp2
  all_goals go_ret
  all_goals refine ⟨ret_bool ?_, rfl⟩
  all_goals simp [wi]
  all_goals omega

set_option maxHeartbeats 400000 in
theorem may_any (p c m : Int) (w : World) :
    Calls Try.prog 18 #[.agg #[.int .i64 p, .int .i64 c, .int .i64 m]] w fun e w' => e = .returned (.bool (mayB p c m)) ∧ w' = w.alloc (.cells #[.int .i64 p, .int .i64 c, .int .i64 m] 23) := by
  have h1 : wi p 1 64 = true ∨ wi p 1 64 = false := by cases wi p 1 64 <;> simp
  have h2 : wi c 1 12 = true ∨ wi c 1 12 = false := by cases wi c 1 12 <;> simp
  rcases h1 with h1 | h1 <;> rcases h2 with h2 | h2 <;>
  · go_enter Try.func18, Try.ntmps18
    go_wp2_with (go_at_call 27; refine (within_any _ _ _ _).mono ?_; rintro e w' ⟨rfl, rfl⟩)
    go_ret
    exact ⟨ret_bool (by simp [mayB, h1, h2]), rfl⟩

set_option maxHeartbeats 400000 in
theorem refMay_any (p c m : Int) (w : World) :
    Calls Try.prog 23 #[.agg #[.int .i64 p, .int .i64 c, .int .i64 m]] w fun e w' => e = .returned (.bool (mayB p c m)) ∧ w' = w.alloc (.cells #[.int .i64 p, .int .i64 c, .int .i64 m] 23) := by
  go_enter Try.func23, Try.ntmps23
  go_wp2
  all_goals go_ret
  all_goals refine ⟨ret_bool ?_, rfl⟩
  all_goals (rw [Bool.eq_iff_iff, mayB_iff]; simp; omega)
end Go.Proofs.Ytclidckjnoafcaa

/- The walks of package plan. -/
import Derived.Test.YtfknaheijidhcaaBase

import Derived.Test.YtfknaheijidhcaaPlanP

namespace Go.Proofs.Ytfknaheijidhcaa

open Go.RowKit

set_option maxHeartbeats 400000 in
theorem within_any (n lo hi : Int) (w : World) :
    Calls Try.prog 66 #[.int .i64 n, .int .i64 lo, .int .i64 hi] w fun e w' => e = .returned (.bool (wi n lo hi)) ∧ w' = w := by
  go_enter Try.func66, Try.ntmps66
  go_wp2
  all_goals go_ret
  all_goals refine ⟨ret_bool ?_, rfl⟩
  all_goals simp [wi]
  all_goals omega

set_option maxHeartbeats 400000 in
theorem may_any (p c m : Int) (w : World) :
    Calls Try.prog 42 #[.agg #[.int .i64 p, .int .i64 c, .int .i64 m]] w fun e w' => e = .returned (.bool (mayB p c m)) ∧ w' = w.alloc (.cells #[.int .i64 p, .int .i64 c, .int .i64 m] 23) := by
  have h1 : wi p 1 64 = true ∨ wi p 1 64 = false := by cases wi p 1 64 <;> simp
  have h2 : wi c 1 12 = true ∨ wi c 1 12 = false := by cases wi c 1 12 <;> simp
  rcases h1 with h1 | h1 <;> rcases h2 with h2 | h2 <;>
  · go_enter Try.func42, Try.ntmps42
    go_wp2_with (go_at_call 66; refine (within_any _ _ _ _).mono ?_; rintro e w' ⟨rfl, rfl⟩)
    go_ret
    exact ⟨ret_bool (by simp [mayB, h1, h2]), rfl⟩

set_option maxHeartbeats 400000 in
theorem planPage_any (p c m a : Int) (w : World) :
    Calls Try.prog 56 #[.agg #[.int .i64 p, .int .i64 c, .int .i64 m], .int .i64 a] w fun e w' => e = .returned (.int .i64 (pageIx p c m a)) ∧ Below w.heap.size w w' := by
  by_cases h1 : mayB p c m = true
  · have hb := mayB_iff.1 h1
    have hp1 : wrap64 (p - 1) = p - 1 := IntWalk.wrap64_in _ ⟨by omega, by omega⟩
    by_cases h2 : wi a 0 (p - 1) = true
    · have hb2 := wi_iff.1 h2
      go_enter Try.func56, Try.ntmps56
      go_wp2_with (first
        | (go_at_call 42; refine (may_any _ _ _ _).mono ?_; rintro e w1 ⟨rfl, rfl⟩)
        | (go_at_call 66; refine (within_any _ _ _ _).mono ?_; rintro e w' ⟨rfl, rfl⟩))
      go_ret
      exact ⟨ret_int (by rw [pageIx, if_pos ⟨h1, h2⟩]), by go_grown⟩
    · have h2' : wi a 0 (p - 1) = false := by simpa using h2
      clear h2
      go_enter Try.func56, Try.ntmps56
      go_wp2_with (first
        | (go_at_call 42; refine (may_any _ _ _ _).mono ?_; rintro e w1 ⟨rfl, rfl⟩)
        | (go_at_call 66; refine (within_any _ _ _ _).mono ?_; rintro e w' ⟨rfl, rfl⟩))
      go_ret
      exact ⟨ret_int (by rw [pageIx, if_neg (by simp [h2'])]), by go_grown⟩
  · have h1' : mayB p c m = false := by simpa using h1
    clear h1
    go_enter Try.func56, Try.ntmps56
    go_wp2_with (first
      | (go_at_call 42; refine (may_any _ _ _ _).mono ?_; rintro e w1 ⟨rfl, rfl⟩)
      | (go_at_call 66; refine (within_any _ _ _ _).mono ?_; rintro e w' ⟨rfl, rfl⟩))
    go_ret
    exact ⟨ret_int (by rw [pageIx, if_neg (by simp [h1'])]), by go_grown⟩

set_option maxHeartbeats 400000 in
theorem slots_any (k : Int) (w : World) :
    Calls Try.prog 57 #[.int .i64 k] w fun e w' => e = .returned (.int .i64 (slotsV k)) ∧ w' = w := by
  by_cases h : 0 ≤ k ∧ k ≤ 3
  · have h1 : wi k 0 3 = true := wi_iff.2 h
    have : k = 0 ∨ k = 1 ∨ k = 2 ∨ k = 3 := by omega
    rcases this with rfl | rfl | rfl | rfl <;>
    · go_enter Try.func57, Try.ntmps57
      go_wp2_with (go_at_call 66; refine (within_any _ _ _ _).mono ?_; rintro e w' ⟨rfl, rfl⟩)
      go_ret
      exact ⟨rfl, rfl⟩
  · have h1 : wi k 0 3 = false := wi_false.2 h
    go_enter Try.func57, Try.ntmps57
    go_wp2_with (go_at_call 66; refine (within_any _ _ _ _).mono ?_; rintro e w' ⟨rfl, rfl⟩)
    go_ret
    exact ⟨ret_int (by rw [slotsV, if_neg (by omega), if_neg (by omega), if_neg (by omega), if_neg (by omega)]), rfl⟩

set_option maxHeartbeats 400000 in
theorem refMay_any (p c m : Int) (w : World) :
    Calls Try.prog 11 #[.agg #[.int .i64 p, .int .i64 c, .int .i64 m]] w fun e w' => e = .returned (.bool (mayB p c m)) ∧ w' = w.alloc (.cells #[.int .i64 p, .int .i64 c, .int .i64 m] 23) := by
  go_enter Try.func11, Try.ntmps11
  go_wp2
  all_goals go_ret
  all_goals refine ⟨ret_bool ?_, rfl⟩
  all_goals (rw [Bool.eq_iff_iff, mayB_iff]; simp; omega)
end Go.Proofs.Ytfknaheijidhcaa

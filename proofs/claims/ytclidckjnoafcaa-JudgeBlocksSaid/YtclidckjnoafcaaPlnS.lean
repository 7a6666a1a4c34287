/- The walks of plan's Size, Class, Run, Length. -/
import Derived.Test.YtclidckjnoafcaaPlanW

import Derived.Test.YtclidckjnoafcaaPlnP

import Derived.Deep.DrawnRows

namespace Go.Proofs.Ytclidckjnoafcaa

open Go.RowKit

attribute [local go_sem ↓] Go.wp_at_zero Go.wp_at_succ

set_option maxHeartbeats 400000 in
theorem size_any (k : Int) (w : World) :
    Calls Try.prog 43 #[.int .i64 k] w fun e w' => e = .returned (.int .i64 (sizeV k)) ∧ w' = w := by
  by_cases h : 0 ≤ k ∧ k ≤ 3
  · have h1 : wi k 0 3 = true := wi_iff.2 h
    have : k = 0 ∨ k = 1 ∨ k = 2 ∨ k = 3 := by omega
    rcases this with rfl | rfl | rfl | rfl <;>
    · go_enter Try.func43, Try.ntmps43
      go_wp2_with (go_at_call 27; refine (within_any _ _ _ _).mono ?_; rintro e w' ⟨rfl, rfl⟩)
      go_ret
      exact ⟨rfl, rfl⟩
  · have h1 : wi k 0 3 = false := wi_false.2 h
    go_enter Try.func43, Try.ntmps43
    go_wp2_with (go_at_call 27; refine (within_any _ _ _ _).mono ?_; rintro e w' ⟨rfl, rfl⟩)
    go_ret
    exact ⟨ret_int (by rw [sizeV, if_neg (by omega), if_neg (by omega), if_neg (by omega), if_neg (by omega)]), rfl⟩

set_option maxHeartbeats 1000000 in
theorem class_any (n : Int) (w : World) :
    Calls Try.prog 42 #[.int .i64 n] w fun e w' => e = .returned (.tuple #[.int .i64 (classV n), .bool (wi n 1 32)]) ∧ w' = w := by
  by_cases h : 1 ≤ n ∧ n ≤ 32
  · have h1 : wi n 1 32 = true := wi_iff.2 h
    have hbd := class_bd n
    have hnx := fun k h0 => class_next (k := k) h h0
    obtain ⟨c, hc⟩ : ∃ c : Nat, classV n = c := ⟨(classV n).toNat, by omega⟩
    rw [h1, hc]
    rw [hc] at hbd
    simp only [hc] at hnx
    clear hc
    go_enter Try.func42, Try.ntmps42
    go_wp2_with (go_at_call 27; refine (within_any _ _ _ _).mono ?_; rintro e w' ⟨rfl, hw⟩; obtain rfl := hw.symm)
    go_loopw [4] (fun vi wr => ∃ k : Nat, k ≤ c ∧ vi = .int .i64 k ∧ wr = w) (fun vi _ => c - (intOf vi).toNat)
    case atStart => exact ⟨0, Nat.zero_le _, rfl, by first | rfl | trivial⟩
    case round =>
      obtain ⟨k, hk, rfl, hwr⟩ := hrel
      obtain rfl := hwr.symm
      have hx := hnx k (by omega) (by omega)
      clear hnx
      by_cases hlt : k < c
      · have hs : sizeV k < n := hx.2 (by omega)
        clear hx
        go_wp2_with (go_at_call 43; refine (size_any _ _).mono ?_; rintro e w' ⟨rfl, hw⟩; obtain rfl := hw.symm)
        exact ⟨⟨k + 1, by omega, by go_num, by first | rfl | trivial⟩, by simp [intOf]; omega⟩
      · have hs : ¬ sizeV k < n := fun h => by have := hx.1 h; omega
        have hkc : k = c := by omega
        subst hkc
        clear hx
        go_wp2_with (go_at_call 43; refine (size_any _ _).mono ?_; rintro e w' ⟨rfl, hw⟩; obtain rfl := hw.symm)
        go_ret2
        exact ⟨rfl, rfl⟩
  · have h1 : wi n 1 32 = false := wi_false.2 h
    have h2 : classV n = 0 := by unfold classV; rw [if_neg (by rw [h1]; simp)]
    rw [h1, h2]
    go_enter Try.func42, Try.ntmps42
    go_wp2_with (go_at_call 27; refine (within_any _ _ _ _).mono ?_; rintro e w' ⟨rfl, rfl⟩)
    go_ret2
    exact ⟨rfl, rfl⟩

set_option maxHeartbeats 1000000 in
theorem run_any (n : Int) (w : World) :
    Calls Try.prog 44 #[.int .i64 n] w fun e w' => e = .returned (.tuple #[.int .i64 (runV n), .bool (wi n 33 512)]) ∧ w' = w := by
  by_cases h : 33 ≤ n ∧ n ≤ 512
  · have h1 : wi n 33 512 = true := wi_iff.2 h
    have h2 : runV n = (n - 1) / 64 + 1 := by unfold runV; rw [if_pos h1]
    have h3 : IntKind.i64.wrap (n - 1) = n - 1 := IntWalk.i64_in _ ⟨by omega, by omega⟩
    have h4 : IntKind.i64.wrap ((n - 1) / 64 + 1) = (n - 1) / 64 + 1 := IntWalk.i64_in _ ⟨by omega, by omega⟩
    rw [h1, h2]
    clear h2
    go_enter Try.func44, Try.ntmps44
    go_wp2_with (go_at_call 27; refine (within_any _ _ _ _).mono ?_; rintro e w' ⟨rfl, rfl⟩)
    go_ret2
    exact ⟨rfl, rfl⟩
  · have h1 : wi n 33 512 = false := wi_false.2 h
    have h2 : runV n = 0 := by unfold runV; rw [if_neg (by rw [h1]; simp)]
    rw [h1, h2]
    go_enter Try.func44, Try.ntmps44
    go_wp2_with (go_at_call 27; refine (within_any _ _ _ _).mono ?_; rintro e w' ⟨rfl, rfl⟩)
    go_ret2
    exact ⟨rfl, rfl⟩

set_option maxHeartbeats 1000000 in
theorem length_any (n : Int) (w : World) :
    Calls Try.prog 36 #[.int .i64 n] w fun e w' => e = .returned (.tuple #[.int .i64 (lenV n), .bool (lenB n)]) ∧ w' = w := by
  by_cases h : 1 ≤ n ∧ n ≤ 32
  · have h1 : wi n 1 32 = true := wi_iff.2 h
    have h2 : lenV n = sizeV (classV n) := by unfold lenV; rw [if_pos h1]
    have h3 : lenB n = true := wi_iff.2 (by omega)
    rw [h2, h3]
    clear h2
    go_enter Try.func36, Try.ntmps36
    go_wp2_with (first
      | (go_at_call 42; refine (class_any _ _).mono ?_; rintro e w' ⟨rfl, rfl⟩)
      | (go_at_call 43; refine (size_any _ _).mono ?_; rintro e w' ⟨rfl, rfl⟩))
    go_ret2
    exact ⟨rfl, rfl⟩
  · have h1 : wi n 1 32 = false := wi_false.2 h
    have h2 : lenV n = runV n * 64 := by unfold lenV; rw [if_neg (by rw [h1]; simp)]
    have h3 : lenB n = wi n 33 512 := by rw [Bool.eq_iff_iff]; unfold lenB; rw [wi_iff, wi_iff]; omega
    have hb := run_bd n
    have h4 : IntKind.i64.wrap (runV n * 64) = runV n * 64 := IntWalk.i64_in _ ⟨by omega, by omega⟩
    rw [h2, h3]
    clear h2 h3
    go_enter Try.func36, Try.ntmps36
    go_wp2_with (first
      | (go_at_call 42; refine (class_any _ _).mono ?_; rintro e w' ⟨rfl, rfl⟩)
      | (go_at_call 44; refine (run_any _ _).mono ?_; rintro e w' ⟨rfl, rfl⟩))
    go_ret2
    exact ⟨rfl, rfl⟩
end Go.Proofs.Ytclidckjnoafcaa

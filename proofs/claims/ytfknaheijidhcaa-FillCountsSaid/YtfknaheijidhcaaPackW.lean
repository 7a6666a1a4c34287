
import Derived.Test.YtfknaheijidhcaaBase

import Derived.Test.YtfknaheijidhcaaPackP

namespace Go.Proofs.Ytfknaheijidhcaa

open Go.RowKit

set_option maxHeartbeats 400000 in
theorem put_any (k : Int) (xs : List Int) (b off : Nat) (w : World) (hk : 0 ≤ k) (hk2 : k ≤ 15) (hl : xs.length ≤ 3)
    (hc : ∀ i, i < xs.length → w.cell? ⟨b, off + i, .none⟩ = some (.int .i64 (xs.getD i 0))) :
    Calls Try.prog 93 #[.int .i64 k, .slice (some ⟨b, off, .none⟩) xs.length xs.length] w fun e w' => e = .returned (.int .u64 (putV k xs)) ∧ w' = w := by
  go_enter Try.func93, Try.ntmps93
  go_wp2
  go_loop [4, 5, 12] (fun r v i => ∃ j : Nat, j ≤ xs.length ∧ i = .int .i64 j ∧ r = .int .u64 0 ∧ v = .int .u64 (k + 16 * horner (xs.take j)) ∧ okAll (xs.take j) = true) (fun _ _ i => xs.length - (intOf i).toNat)
  case atStart => exact ⟨0, Nat.zero_le _, rfl, rfl, by simp [horner], by simp [okAll]⟩
  case round =>
    obtain ⟨j, hj, rfl, rfl, rfl, hok⟩ := hrel
    have hcell : j < xs.length → w.cell? ⟨b, off + j, .none⟩ = some (.int .i64 (xs.getD j 0)) := fun h => hc j h
    go_wp2
    case roundEnd =>
      have hs := put_step k xs j hk hk2 (by omega) ‹_› (by omega) (by omega) hok
      exact ⟨⟨j + 1, by omega, by go_num, rfl, by rw [hs.1], hs.2⟩, by simp [intOf]; omega⟩
    all_goals go_ret
    · exact ⟨by rw [putV_bad k xs j ‹_› (by omega)]; rfl, rfl⟩
    · exact ⟨by rw [putV_bad k xs j ‹_› (by omega)]; rfl, rfl⟩
    · have e : xs.take j = xs := List.take_of_length_le (by omega)
      rw [e] at hok ⊢
      exact ⟨by rw [putV_ok k xs hok]; rfl, rfl⟩

theorem put1 (k a : Int) (b off : Nat) (w : World) (hk : 0 ≤ k) (hk2 : k ≤ 15) (h0 : w.cell? ⟨b, off, .none⟩ = some (.int .i64 a)) :
    Calls Try.prog 93 #[.int .i64 k, .slice (some ⟨b, off, .none⟩) 1 1] w fun e w' => e = .returned (.int .u64 (putV k [a])) ∧ w' = w :=
  put_any k [a] b off w hk hk2 (by simp) (fun i hi => by
    match i, hi with
    | 0, _ => exact h0)
theorem put2 (k a c : Int) (b off : Nat) (w : World) (hk : 0 ≤ k) (hk2 : k ≤ 15) (h0 : w.cell? ⟨b, off, .none⟩ = some (.int .i64 a)) (h1 : w.cell? ⟨b, off + 1, .none⟩ = some (.int .i64 c)) :
    Calls Try.prog 93 #[.int .i64 k, .slice (some ⟨b, off, .none⟩) 2 2] w fun e w' => e = .returned (.int .u64 (putV k [a, c])) ∧ w' = w :=
  put_any k [a, c] b off w hk hk2 (by simp) (fun i hi => by
    match i, hi with
    | 0, _ => exact h0
    | 1, _ => exact h1)
theorem put3 (k a c d : Int) (b off : Nat) (w : World) (hk : 0 ≤ k) (hk2 : k ≤ 15) (h0 : w.cell? ⟨b, off, .none⟩ = some (.int .i64 a)) (h1 : w.cell? ⟨b, off + 1, .none⟩ = some (.int .i64 c)) (h2 : w.cell? ⟨b, off + 2, .none⟩ = some (.int .i64 d)) :
    Calls Try.prog 93 #[.int .i64 k, .slice (some ⟨b, off, .none⟩) 3 3] w fun e w' => e = .returned (.int .u64 (putV k [a, c, d])) ∧ w' = w :=
  put_any k [a, c, d] b off w hk hk2 (by simp) (fun i hi => by
    match i, hi with
    | 0, _ => exact h0
    | 1, _ => exact h1
    | 2, _ => exact h2)

set_option maxHeartbeats 400000 in
theorem putPage_any (k a b : Int) (w : World) :
    Calls Try.prog 83 #[.agg #[.int .i64 k, .int .i64 a, .int .i64 b]] w fun e w' => e = .returned (.int .u64 (pageV k a b)) ∧ Below w.heap.size w w' := by
  go_enter Try.func83, Try.ntmps83
  go_wp2_with (go_at_call 93; refine (put2 _ a b _ _ _ (by omega) (by omega) (by go_simp) (by go_simp)).mono ?_; rintro e w' ⟨rfl, rfl⟩)
  all_goals go_ret
  all_goals refine ⟨ret_int ?_, by go_grown⟩
  all_goals simp_all [pageV, pageBad]
  all_goals omega

set_option maxHeartbeats 400000 in
theorem putSlot_any (k a : Int) (w : World) :
    Calls Try.prog 85 #[.agg #[.int .i64 k, .int .i64 a]] w fun e w' => e = .returned (.int .u64 (slotV k a)) ∧ Below w.heap.size w w' := by
  go_enter Try.func85, Try.ntmps85
  go_wp2_with (go_at_call 93; refine (put1 _ a _ _ _ (by omega) (by omega) (by go_simp)).mono ?_; rintro e w' ⟨rfl, rfl⟩)
  all_goals go_ret
  all_goals refine ⟨ret_int ?_, by go_grown⟩
  all_goals simp_all [slotV, slotBad]
  all_goals omega

set_option maxHeartbeats 400000 in
theorem putEntry_any (a b c : Int) (w : World) :
    Calls Try.prog 95 #[.agg #[.int .i64 a, .int .i64 b, .int .i64 c]] w fun e w' => e = .returned (.int .u64 (putV 1 [a, b, c])) ∧ Below w.heap.size w w' := by
  go_enter Try.func95, Try.ntmps95
  go_wp2_with (go_at_call 93; refine (put3 _ a b c _ _ _ (by omega) (by omega) (by go_simp) (by go_simp) (by go_simp)).mono ?_; rintro e w' ⟨rfl, rfl⟩)
  all_goals go_ret
  all_goals exact ⟨rfl, by go_grown⟩

set_option maxHeartbeats 400000 in
theorem status_any (k a : Int) (w : World) :
    Calls Try.prog 90 #[.int .i64 k, .int .i64 a] w fun e w' => e = .returned (.int .u64 (statusV k a)) ∧ Below w.heap.size w w' := by
  go_enter Try.func90, Try.ntmps90
  go_wp2_with (go_at_call 93; refine (put1 _ a _ _ _ (by omega) (by omega) (by go_simp)).mono ?_; rintro e w' ⟨rfl, rfl⟩)
  all_goals go_ret
  all_goals refine ⟨ret_int ?_, by go_grown⟩
  all_goals simp_all [statusV, statusBad]
  all_goals omega
end Go.Proofs.Ytfknaheijidhcaa

/- The walks of plan's Words, Status, Slot, Mag, Split, Address. -/
import Derived.Test.YtfknaheijidhcaaPlnS

namespace Go.Proofs.Ytfknaheijidhcaa

open Go.RowKit


set_option maxHeartbeats 400000 in
theorem words_any (p c m : Int) (w : World) :
    Calls Try.prog 43 #[.agg #[.int .i64 p, .int .i64 c, .int .i64 m]] w fun e w' => e = .returned (.int .i64 (totalV p c m)) ∧ Below w.heap.size w w' := by
  by_cases h1 : mayB p c m = true
  · have hb := mayB_iff.1 h1
    have hm := mul_bd (c := c) (m := m) (C := 12) (M := 8) (by omega) (by omega)
    have hv : totalV p c m = c + p + p * 16 + c * m := by unfold totalV; rw [if_pos h1]
    rw [hv]
    clear hv
    have w1 : IntKind.i64.wrap (c + p) = c + p := IntWalk.i64_in _ ⟨by omega, by omega⟩
    have w2 : IntKind.i64.wrap (p * 16) = p * 16 := IntWalk.i64_in _ ⟨by omega, by omega⟩
    have w3 : IntKind.i64.wrap (c + p + p * 16) = c + p + p * 16 := IntWalk.i64_in _ ⟨by omega, by omega⟩
    have w4 : IntKind.i64.wrap (c * m) = c * m := IntWalk.i64_in _ ⟨by omega, by omega⟩
    have w5 : IntKind.i64.wrap (c + p + p * 16 + c * m) = c + p + p * 16 + c * m := IntWalk.i64_in _ ⟨by omega, by omega⟩
    go_enter Try.func43, Try.ntmps43
    go_wp2_with (go_at_call 42; refine (may_any _ _ _ _).mono ?_; rintro e w1 ⟨rfl, rfl⟩)
    go_ret
    exact ⟨rfl, by go_grown⟩
  · have h1' : mayB p c m = false := by simpa using h1
    have hv : totalV p c m = 0 := by unfold totalV; rw [if_neg h1]
    rw [hv]
    clear h1 hv
    go_enter Try.func43, Try.ntmps43
    go_wp2_with (go_at_call 42; refine (may_any _ _ _ _).mono ?_; rintro e w1 ⟨rfl, rfl⟩)
    go_ret
    exact ⟨rfl, by go_grown⟩

set_option maxHeartbeats 800000 in
theorem planStatus_any (p c m x : Int) (w : World) :
    Calls Try.prog 73 #[.agg #[.int .i64 p, .int .i64 c, .int .i64 m], .int .i64 x] w fun e w' => e = .returned (.int .i64 (statusIx p c m x)) ∧ Below w.heap.size w w' := by
  by_cases h1 : mayB p c m = true
  case neg =>
    have h1' : mayB p c m = false := by simpa using h1
    have hv : statusIx p c m x = -1 := by unfold statusIx; rw [if_neg (fun h => h1 h.1)]
    rw [hv]
    clear h1 hv
    go_enter Try.func73, Try.ntmps73
    go_wp2_with (first
        | (go_at_call 42; refine (may_any _ _ _ _).mono ?_; rintro e w1 ⟨rfl, rfl⟩)
        | (go_at_call 66; refine (within_any _ _ _ _).mono ?_; rintro e w' ⟨rfl, rfl⟩))
    go_ret
    exact ⟨rfl, by go_grown⟩
  case pos =>
    have hb := mayB_iff.1 h1
    have wc : wrap64 (c - 1) = c - 1 := IntWalk.wrap64_in _ ⟨by omega, by omega⟩
    by_cases q0 : wi x 0 (c - 1) = true
    case neg =>
      have q' : wi x 0 (c - 1) = false := by simpa using q0
      have hv : statusIx p c m x = -1 := by unfold statusIx; rw [if_neg (fun h => q0 h.2)]
      rw [hv]
      clear q0 hv
      go_enter Try.func73, Try.ntmps73
      go_wp2_with (first
        | (go_at_call 42; refine (may_any _ _ _ _).mono ?_; rintro e w1 ⟨rfl, rfl⟩)
        | (go_at_call 66; refine (within_any _ _ _ _).mono ?_; rintro e w' ⟨rfl, rfl⟩))
      go_ret
      exact ⟨rfl, by go_grown⟩
    have b0 := wi_iff.1 q0
    have hv : statusIx p c m x = x := by unfold statusIx; rw [if_pos ⟨h1, q0⟩]
    rw [hv]
    clear hv
    go_enter Try.func73, Try.ntmps73
    go_wp2_with (first
        | (go_at_call 42; refine (may_any _ _ _ _).mono ?_; rintro e w1 ⟨rfl, rfl⟩)
        | (go_at_call 66; refine (within_any _ _ _ _).mono ?_; rintro e w' ⟨rfl, rfl⟩))
    go_ret
    exact ⟨rfl, by go_grown⟩

set_option maxHeartbeats 800000 in
theorem planSlot_any (p c m a i : Int) (w : World) :
    Calls Try.prog 59 #[.agg #[.int .i64 p, .int .i64 c, .int .i64 m], .int .i64 a, .int .i64 i] w fun e w' => e = .returned (.int .i64 (slotIx p c m a i)) ∧ Below w.heap.size w w' := by
  by_cases h1 : mayB p c m = true
  case neg =>
    have h1' : mayB p c m = false := by simpa using h1
    have hv : slotIx p c m a i = -1 := by unfold slotIx; rw [if_neg (fun h => h1 h.1)]
    rw [hv]
    clear h1 hv
    go_enter Try.func59, Try.ntmps59
    go_wp2_with (first
        | (go_at_call 42; refine (may_any _ _ _ _).mono ?_; rintro e w1 ⟨rfl, rfl⟩)
        | (go_at_call 66; refine (within_any _ _ _ _).mono ?_; rintro e w' ⟨rfl, rfl⟩))
    go_ret
    exact ⟨rfl, by go_grown⟩
  case pos =>
    have hb := mayB_iff.1 h1
    have wc : wrap64 (p - 1) = p - 1 := IntWalk.wrap64_in _ ⟨by omega, by omega⟩
    by_cases q0 : wi a 0 (p - 1) = true
    case neg =>
      have q' : wi a 0 (p - 1) = false := by simpa using q0
      have hv : slotIx p c m a i = -1 := by unfold slotIx; rw [if_neg (fun h => q0 h.2.1)]
      rw [hv]
      clear q0 hv
      go_enter Try.func59, Try.ntmps59
      go_wp2_with (first
        | (go_at_call 42; refine (may_any _ _ _ _).mono ?_; rintro e w1 ⟨rfl, rfl⟩)
        | (go_at_call 66; refine (within_any _ _ _ _).mono ?_; rintro e w' ⟨rfl, rfl⟩))
      go_ret
      exact ⟨rfl, by go_grown⟩
    have b0 := wi_iff.1 q0
    by_cases q1 : wi i 0 15 = true
    case neg =>
      have q' : wi i 0 15 = false := by simpa using q1
      have hv : slotIx p c m a i = -1 := by unfold slotIx; rw [if_neg (fun h => q1 h.2.2)]
      rw [hv]
      clear q1 hv
      go_enter Try.func59, Try.ntmps59
      go_wp2_with (first
        | (go_at_call 42; refine (may_any _ _ _ _).mono ?_; rintro e w1 ⟨rfl, rfl⟩)
        | (go_at_call 66; refine (within_any _ _ _ _).mono ?_; rintro e w' ⟨rfl, rfl⟩))
      go_ret
      exact ⟨rfl, by go_grown⟩
    have b1 := wi_iff.1 q1
    have hv : slotIx p c m a i = c + p + a * 16 + i := by unfold slotIx; rw [if_pos ⟨h1, q0, q1⟩]
    rw [hv]
    clear hv
    have w1 : IntKind.i64.wrap (c + p) = c + p := IntWalk.i64_in _ ⟨by omega, by omega⟩
    have w2 : IntKind.i64.wrap (a * 16) = a * 16 := IntWalk.i64_in _ ⟨by omega, by omega⟩
    have w3 : IntKind.i64.wrap (c + p + a * 16) = c + p + a * 16 := IntWalk.i64_in _ ⟨by omega, by omega⟩
    have w4 : IntKind.i64.wrap (c + p + a * 16 + i) = c + p + a * 16 + i := IntWalk.i64_in _ ⟨by omega, by omega⟩
    go_enter Try.func59, Try.ntmps59
    go_wp2_with (first
        | (go_at_call 42; refine (may_any _ _ _ _).mono ?_; rintro e w1 ⟨rfl, rfl⟩)
        | (go_at_call 66; refine (within_any _ _ _ _).mono ?_; rintro e w' ⟨rfl, rfl⟩))
    go_ret
    exact ⟨rfl, by go_grown⟩

set_option maxHeartbeats 800000 in
theorem planMag_any (p c m x i : Int) (w : World) :
    Calls Try.prog 78 #[.agg #[.int .i64 p, .int .i64 c, .int .i64 m], .int .i64 x, .int .i64 i] w fun e w' => e = .returned (.int .i64 (magIx p c m x i)) ∧ Below w.heap.size w w' := by
  by_cases h1 : mayB p c m = true
  case neg =>
    have h1' : mayB p c m = false := by simpa using h1
    have hv : magIx p c m x i = -1 := by unfold magIx; rw [if_neg (fun h => h1 h.1)]
    rw [hv]
    clear h1 hv
    go_enter Try.func78, Try.ntmps78
    go_wp2_with (first
        | (go_at_call 42; refine (may_any _ _ _ _).mono ?_; rintro e w1 ⟨rfl, rfl⟩)
        | (go_at_call 66; refine (within_any _ _ _ _).mono ?_; rintro e w' ⟨rfl, rfl⟩))
    go_ret
    exact ⟨rfl, by go_grown⟩
  case pos =>
    have hb := mayB_iff.1 h1
    have wc : wrap64 (c - 1) = c - 1 := IntWalk.wrap64_in _ ⟨by omega, by omega⟩
    have wd : wrap64 (m - 1) = m - 1 := IntWalk.wrap64_in _ ⟨by omega, by omega⟩
    by_cases q0 : wi x 0 (c - 1) = true
    case neg =>
      have q' : wi x 0 (c - 1) = false := by simpa using q0
      have hv : magIx p c m x i = -1 := by unfold magIx; rw [if_neg (fun h => q0 h.2.1)]
      rw [hv]
      clear q0 hv
      go_enter Try.func78, Try.ntmps78
      go_wp2_with (first
        | (go_at_call 42; refine (may_any _ _ _ _).mono ?_; rintro e w1 ⟨rfl, rfl⟩)
        | (go_at_call 66; refine (within_any _ _ _ _).mono ?_; rintro e w' ⟨rfl, rfl⟩))
      go_ret
      exact ⟨rfl, by go_grown⟩
    have b0 := wi_iff.1 q0
    by_cases q1 : wi i 0 (m - 1) = true
    case neg =>
      have q' : wi i 0 (m - 1) = false := by simpa using q1
      have hv : magIx p c m x i = -1 := by unfold magIx; rw [if_neg (fun h => q1 h.2.2)]
      rw [hv]
      clear q1 hv
      go_enter Try.func78, Try.ntmps78
      go_wp2_with (first
        | (go_at_call 42; refine (may_any _ _ _ _).mono ?_; rintro e w1 ⟨rfl, rfl⟩)
        | (go_at_call 66; refine (within_any _ _ _ _).mono ?_; rintro e w' ⟨rfl, rfl⟩))
      go_ret
      exact ⟨rfl, by go_grown⟩
    have b1 := wi_iff.1 q1
    have hv : magIx p c m x i = c + p + p * 16 + x * m + i := by unfold magIx; rw [if_pos ⟨h1, q0, q1⟩]
    rw [hv]
    clear hv
    have hm := mul_bd (c := x) (m := m) (C := 11) (M := 8) (by omega) (by omega)
    have w1 : IntKind.i64.wrap (c + p) = c + p := IntWalk.i64_in _ ⟨by omega, by omega⟩
    have w2 : IntKind.i64.wrap (p * 16) = p * 16 := IntWalk.i64_in _ ⟨by omega, by omega⟩
    have w3 : IntKind.i64.wrap (c + p + p * 16) = c + p + p * 16 := IntWalk.i64_in _ ⟨by omega, by omega⟩
    have w4 : IntKind.i64.wrap (x * m) = x * m := IntWalk.i64_in _ ⟨by omega, by omega⟩
    have w5 : IntKind.i64.wrap (c + p + p * 16 + x * m) = c + p + p * 16 + x * m := IntWalk.i64_in _ ⟨by omega, by omega⟩
    have w6 : IntKind.i64.wrap (c + p + p * 16 + x * m + i) = c + p + p * 16 + x * m + i := IntWalk.i64_in _ ⟨by omega, by omega⟩
    go_enter Try.func78, Try.ntmps78
    go_wp2_with (first
        | (go_at_call 42; refine (may_any _ _ _ _).mono ?_; rintro e w1 ⟨rfl, rfl⟩)
        | (go_at_call 66; refine (within_any _ _ _ _).mono ?_; rintro e w' ⟨rfl, rfl⟩))
    go_ret
    exact ⟨rfl, by go_grown⟩


def splitB (p c m a : Int) : Bool := mayB p c m && wi a 0 (p * 64 - 1)
theorem and63 (x : Int) (h0 : 0 ≤ x) (h1 : x < 9223372036854775808) : bits .and .i64 x 63 = x % 64 :=
  bits_mask .i64 63 (by decide) (fun n a b => IntWalk.i64_in _ ⟨by omega, by omega⟩) 6 (by decide) x h0 h1
set_option maxHeartbeats 800000 in
theorem split_any (p c m a : Int) (w : World) :
    Calls Try.prog 64 #[.agg #[.int .i64 p, .int .i64 c, .int .i64 m], .int .i64 a] w fun e w' => e = .returned (.tuple (if splitB p c m a = true then #[.int .i64 (a / 64), .int .i64 (a % 64), .bool true] else #[.int .i64 0, .int .i64 0, .bool false])) ∧ Below w.heap.size w w' := by
  by_cases h1 : mayB p c m = true
  case neg =>
    have h1' : mayB p c m = false := by simpa using h1
    have hv : splitB p c m a = false := by unfold splitB; rw [h1']; rfl
    rw [hv, if_neg Bool.false_ne_true]
    clear h1 hv
    go_enter Try.func64, Try.ntmps64
    go_wp2_with (first
        | (go_at_call 42; refine (may_any _ _ _ _).mono ?_; rintro e w1 ⟨rfl, rfl⟩)
        | (go_at_call 66; refine (within_any _ _ _ _).mono ?_; rintro e w' ⟨rfl, rfl⟩))
    go_ret3
    exact ⟨rfl, by go_grown⟩
  case pos =>
    have hb := mayB_iff.1 h1
    have w1 : IntKind.i64.wrap (p * 64) = p * 64 := IntWalk.i64_in _ ⟨by omega, by omega⟩
    have w2 : IntKind.i64.wrap (p * 64 - 1) = p * 64 - 1 := IntWalk.i64_in _ ⟨by omega, by omega⟩
    by_cases q0 : wi a 0 (p * 64 - 1) = true
    case neg =>
      have q' : wi a 0 (p * 64 - 1) = false := by simpa using q0
      have hv : splitB p c m a = false := by unfold splitB; rw [q', Bool.and_false]
      rw [hv, if_neg Bool.false_ne_true]
      clear q0 hv
      go_enter Try.func64, Try.ntmps64
      go_wp2_with (first
        | (go_at_call 42; refine (may_any _ _ _ _).mono ?_; rintro e w1 ⟨rfl, rfl⟩)
        | (go_at_call 66; refine (within_any _ _ _ _).mono ?_; rintro e w' ⟨rfl, rfl⟩))
      go_ret3
      exact ⟨rfl, by go_grown⟩
    have b0 := wi_iff.1 q0
    have hv : splitB p c m a = true := by unfold splitB; rw [h1, q0]; rfl
    rw [hv, if_pos rfl]
    clear hv
    have hand := and63 a (by omega) (by omega)
    go_enter Try.func64, Try.ntmps64
    go_wp2_with (first
        | (go_at_call 42; refine (may_any _ _ _ _).mono ?_; rintro e w1 ⟨rfl, rfl⟩)
        | (go_at_call 66; refine (within_any _ _ _ _).mono ?_; rintro e w' ⟨rfl, rfl⟩))
    go_ret3
    exact ⟨rfl, by go_grown⟩

set_option maxHeartbeats 800000 in
theorem address_any (p i k : Int) (w : World) (hp : 0 ≤ p ∧ p ≤ 64) (hi : 0 ≤ i ∧ i ≤ 16) :
    Calls Try.prog 62 #[.int .i64 p, .int .i64 i, .int .i64 k] w fun e w' => e = .returned (.int .i64 (p * 64 + i * sizeV k)) ∧ w' = w := by
  have hs := size_bd k
  have hm := mul_bd (c := i) (m := sizeV k) (C := 16) (M := 32) (by omega) (by omega)
  have w1 : IntKind.i64.wrap (p * 64) = p * 64 := IntWalk.i64_in _ ⟨by omega, by omega⟩
  have w2 : IntKind.i64.wrap (i * sizeV k) = i * sizeV k := IntWalk.i64_in _ ⟨by omega, by omega⟩
  have w3 : IntKind.i64.wrap (p * 64 + i * sizeV k) = p * 64 + i * sizeV k := IntWalk.i64_in _ ⟨by omega, by omega⟩
  go_enter Try.func62, Try.ntmps62
  go_wp2_with (go_at_call 63; refine (size_any _ _).mono ?_; rintro e w' ⟨rfl, rfl⟩)
  go_ret
  exact ⟨rfl, rfl⟩
end Go.Proofs.Ytfknaheijidhcaa

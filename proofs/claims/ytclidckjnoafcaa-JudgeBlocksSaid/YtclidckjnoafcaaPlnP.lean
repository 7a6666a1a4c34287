/- Plain facts on sizes and places. -/
import Derived.Test.YtclidckjnoafcaaPlanP

namespace Go.Proofs.Ytclidckjnoafcaa

def classV (n : Int) : Int := if wi n 1 32 = true then (if n ≤ 4 then 0 else if n ≤ 8 then 1 else if n ≤ 16 then 2 else 3) else 0
def runV (n : Int) : Int := if wi n 33 512 = true then (n - 1) / 64 + 1 else 0
def lenB (n : Int) : Bool := wi n 1 512
def lenV (n : Int) : Int := if wi n 1 32 = true then sizeV (classV n) else runV n * 64
theorem class_bd (n : Int) : 0 ≤ classV n ∧ classV n ≤ 3 := by unfold classV; split <;> (try split) <;> (try split) <;> (try split) <;> omega
theorem class_next {n k : Int} (hn : 1 ≤ n ∧ n ≤ 32) (h0 : 0 ≤ k) (h : k ≤ classV n) : sizeV k < n ↔ k < classV n := by
  have h1 : wi n 1 32 = true := wi_iff.2 hn
  unfold classV at *
  rw [if_pos h1] at *
  unfold sizeV
  split at h <;> (try split at h) <;> (try split at h) <;> (split <;> (try split) <;> (try split) <;> (try split) <;> (try split) <;> (try split) <;> (try split)) <;> omega
theorem run_bd (n : Int) : 0 ≤ runV n ∧ runV n ≤ 8 := by
  unfold runV; split
  · rename_i h; have := wi_iff.1 h; omega
  · omega
theorem size_bd (k : Int) : 0 ≤ sizeV k ∧ sizeV k ≤ 32 := by unfold sizeV; split <;> (try split) <;> (try split) <;> (try split) <;> omega
theorem slots_bd (k : Int) : 0 ≤ slotsV k ∧ slotsV k ≤ 16 := by unfold slotsV; split <;> (try split) <;> (try split) <;> (try split) <;> omega
theorem size_slots {k : Int} (h : 0 ≤ k ∧ k ≤ 3) : sizeV k * slotsV k = 64 := by
  have : k = 0 ∨ k = 1 ∨ k = 2 ∨ k = 3 := by omega
  rcases this with rfl | rfl | rfl | rfl <;> rfl
def totalV (p c m : Int) : Int := if mayB p c m = true then c + p + p * 16 + c * m else 0
def statusIx (p c m x : Int) : Int := if mayB p c m = true ∧ wi x 0 (c - 1) = true then x else -1
def slotIx (p c m a i : Int) : Int := if mayB p c m = true ∧ wi a 0 (p - 1) = true ∧ wi i 0 15 = true then c + p + a * 16 + i else -1
def magIx (p c m x i : Int) : Int := if mayB p c m = true ∧ wi x 0 (c - 1) = true ∧ wi i 0 (m - 1) = true then c + p + p * 16 + x * m + i else -1
theorem mul_bd {c m C M : Int} (hc : 0 ≤ c ∧ c ≤ C) (hm : 0 ≤ m ∧ m ≤ M) : 0 ≤ c * m ∧ c * m ≤ C * M :=
  ⟨Int.mul_nonneg hc.1 hm.1, Int.mul_le_mul hc.2 hm.2 hm.1 (by omega)⟩
theorem total_bd (p c m : Int) : 0 ≤ totalV p c m ∧ totalV p c m ≤ 1196 := by
  unfold totalV; split
  · rename_i h; have h := mayB_iff.1 h
    have := mul_bd (c := c) (m := m) (C := 12) (M := 8) (by omega) (by omega)
    omega
  · omega
end Go.Proofs.Ytclidckjnoafcaa

/- Shares of at most ten pages: their floats, reckoned one by one. -/
import Derived.Test.YtfknaheijidhcaaFilP

namespace Go.Proofs.Ytfknaheijidhcaa

open Fl

def chkF (z s P n : Nat) : Bool :=
  ratioF ((z * n : Nat) : Int) ((P * 64 : Nat) : Int) == ratioF (n : Int) ((P * s : Nat) : Int) && floatBits .add .f64 0 (ratioF (n : Int) ((P * s : Nat) : Int)) == some (ratioF (n : Int) ((P * s : Nat) : Int)) &&
    floatBits .quo .f64 (ratioF (n : Int) ((P * s : Nat) : Int)) (floatOfInt .f64 1) == some (ratioF (n : Int) ((P * s : Nat) : Int))
def chkS (z s : Nat) : Bool := (List.range 10).all fun p => (List.range ((p + 1) * s + 1)).all fun n => chkF z s (p + 1) n
theorem chk0 : chkS 4 16 = true := by decide +kernel
theorem chk1 : chkS 8 8 = true := by decide +kernel
theorem chk2 : chkS 16 4 = true := by decide +kernel
theorem chk3 : chkS 32 2 = true := by decide +kernel
theorem chk_use {z s P n : Nat} (h : chkS z s = true) (hP : 1 ≤ P ∧ P ≤ 10) (hn : n ≤ P * s) :
    ratioF ((z * n : Nat) : Int) ((P * 64 : Nat) : Int) = ratioF (n : Int) ((P * s : Nat) : Int) ∧ floatBits .add .f64 0 (ratioF (n : Int) ((P * s : Nat) : Int)) = some (ratioF (n : Int) ((P * s : Nat) : Int)) ∧
    floatBits .quo .f64 (ratioF (n : Int) ((P * s : Nat) : Int)) (floatOfInt .f64 1) = some (ratioF (n : Int) ((P * s : Nat) : Int)) := by
  have h1 := List.all_eq_true.1 h (P - 1) (List.mem_range.2 (by omega))
  rw [show P - 1 + 1 = P by omega] at h1
  have h2 := List.all_eq_true.1 h1 n (List.mem_range.2 (by omega))
  unfold chkF at h2
  simp only [Bool.and_eq_true, beq_iff_eq] at h2
  exact ⟨h2.1.1, h2.1.2, h2.2⟩
theorem chk_any {k : Int} {s P n : Nat} (hk : 0 ≤ k ∧ k ≤ 3) (hs : slotsV k = (s : Int)) (hP : 1 ≤ P ∧ P ≤ 10) (hn : n ≤ P * s) :
    ratioF (sizeV k * (n : Int)) ((P : Int) * 64) = ratioF (n : Int) ((P * s : Nat) : Int) ∧ floatBits .add .f64 0 (ratioF (n : Int) ((P * s : Nat) : Int)) = some (ratioF (n : Int) ((P * s : Nat) : Int)) ∧
    floatBits .quo .f64 (ratioF (n : Int) ((P * s : Nat) : Int)) (floatOfInt .f64 1) = some (ratioF (n : Int) ((P * s : Nat) : Int)) := by
  have h4 : k = 0 ∨ k = 1 ∨ k = 2 ∨ k = 3 := by omega
  rcases h4 with rfl | rfl | rfl | rfl
  · obtain rfl : s = 16 := by have : slotsV 0 = 16 := rfl; omega
    exact chk_use chk0 hP hn
  · obtain rfl : s = 8 := by have : slotsV 1 = 8 := rfl; omega
    exact chk_use chk1 hP hn
  · obtain rfl : s = 4 := by have : slotsV 2 = 4 := rfl; omega
    exact chk_use chk2 hP hn
  · obtain rfl : s = 2 := by have : slotsV 3 = 2 := rfl; omega
    exact chk_use chk3 hP hn
end Go.Proofs.Ytfknaheijidhcaa

/- The walks of package sched: Same. -/
import Derived.Test.YtkeiehgojclecaaDoorSchU

namespace Go.Proofs.YtkeiehgojclecaaDoor

open Go.RowKit Fl

/-- Two choices are the same, the biases by their keys. -/
def sameC (a b : Ch) : Bool := decide (a.kind = b.kind) && (decide (a.client = b.client) && (decide (a.ok = b.ok ∧ a.oa = b.oa ∧ a.on = b.on) && decide (key a.bias = key b.bias)))
def sameL : List Ch → List Ch → Bool
  | [], [] => true
  | a :: l, b :: k => sameC a b && sameL l k
  | _, _ => false
def Ch.fit (c : Ch) : Prop := c.bias < 18446744073709551616

theorem same_upto (xs ys : List Ch) (hl : xs.length = ys.length) (h : ∀ i, (hi : i < xs.length) → sameC xs[i] (ys[i]'(hl ▸ hi)) = true) : sameL xs ys = true := by
  induction xs generalizing ys with
  | nil => cases ys with
    | nil => rfl
    | cons _ _ => simp at hl
  | cons x xs ih => cases ys with
    | nil => simp at hl
    | cons y ys =>
      show (sameC x y && sameL xs ys) = true
      rw [Bool.and_eq_true]
      refine ⟨h 0 (by simp), ih ys (by simpa using hl) (fun i hi => ?_)⟩
      have := h (i + 1) (by simpa using hi)
      simpa using this
theorem same_not (xs ys : List Ch) (hl : xs.length = ys.length) (i : Nat) (hi : i < xs.length) (h : sameC xs[i] (ys[i]'(hl ▸ hi)) = false) : sameL xs ys = false := by
  induction xs generalizing ys i with
  | nil => simp at hi
  | cons x xs ih => cases ys with
    | nil => simp at hl
    | cons y ys =>
      show (sameC x y && sameL xs ys) = false
      cases i with
      | zero => simp only [List.getElem_cons_zero] at h; rw [h]; rfl
      | succ i =>
        rw [ih ys (by simpa using hl) i (by simpa using hi) (by simpa using h), Bool.and_false]
theorem same_len (xs ys : List Ch) (hl : xs.length ≠ ys.length) : sameL xs ys = false := by
  induction xs generalizing ys with
  | nil => cases ys with
    | nil => simp at hl
    | cons _ _ => rfl
  | cons x xs ih => cases ys with
    | nil => rfl
    | cons y ys =>
      show (sameC x y && sameL xs ys) = false
      rw [ih ys (by simpa using hl), Bool.and_false]
end Go.Proofs.YtkeiehgojclecaaDoor

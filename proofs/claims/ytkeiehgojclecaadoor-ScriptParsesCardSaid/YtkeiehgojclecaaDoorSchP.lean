/- Choices of schedules: what a row of them is in memory. -/
import Derived.Test.YtkeiehgojclecaaDoorEdgeW

import Derived.Deep.AppendLies

import Derived.Deep.RegionLaw

namespace Go.Proofs.YtkeiehgojclecaaDoor

open Go.RowKit Fl

/-- A choice: its kind, its client, its operation (kind, A, N), its bias. -/
structure Ch where
  kind : Int
  client : Int
  ok : Int
  oa : Int
  on : Int
  bias : Nat
  deriving DecidableEq

def Ch.cells (c : Ch) : List Value := [.int .i64 c.kind, .int .i64 c.client, .int .i64 c.ok, .int .i64 c.oa, .int .i64 c.on, .float .f64 c.bias]
def flatC (xs : List Ch) : List Value := xs.flatMap Ch.cells
theorem flatC_length (xs : List Ch) : (flatC xs).length = xs.length * 6 := by
  induction xs with
  | nil => rfl
  | cons x xs ih =>
    have : (flatC (x :: xs)) = x.cells ++ flatC xs := rfl
    rw [this, List.length_append, ih, List.length_cons]
    show 6 + _ = _
    omega
theorem flatC_append (xs ys : List Ch) : flatC (xs ++ ys) = flatC xs ++ flatC ys := by simp [flatC]
theorem flatC_get (xs : List Ch) (i j : Nat) (hi : i < xs.length) (hj : j < 6) : (flatC xs)[i * 6 + j]? = (xs[i].cells)[j]? := by
  induction xs generalizing i with
  | nil => simp at hi
  | cons x xs ih =>
    have hl : x.cells.length = 6 := rfl
    show (x.cells ++ flatC xs)[i * 6 + j]? = _
    cases i with
    | zero => rw [List.getElem?_append_left (by omega)]; simp
    | succ i =>
      rw [List.getElem?_append_right (by omega), hl, show (i + 1) * 6 + j - 6 = i * 6 + j from by omega]
      simpa using ih i (by simpa using hi)

/-- A slice that reads as a row of choices. -/
def RdC (w : World) (v : Value) (xs : List Ch) : Prop := ∃ ao cap, v = .slice ao xs.length cap ∧ xs.length ≤ cap ∧ (cap : Int) ≤ 9223372036854775807 ∧
  (xs ≠ [] → ∃ b off, ao = some ⟨b, off, .none⟩ ∧ b < w.heap.size ∧ ∀ i j, (hi : i < xs.length) → j < 6 → w.cell? ⟨b, off + i * 6 + j, .none⟩ = (xs[i].cells)[j]?)
theorem RdC.below {w w' : World} {v : Value} {xs : List Ch} (h : RdC w v xs) (hb : Below w.heap.size w w') : RdC w' v xs :=
  let ⟨ao, cap, e, h1, h2, h3⟩ := h
  ⟨ao, cap, e, h1, h2, fun hx => let ⟨b, off, ea, hlt, hc⟩ := h3 hx; ⟨b, off, ea, Nat.lt_of_lt_of_le hlt hb.size, fun i j hi hj => (hb.cell (p := ⟨b, _, .none⟩) hlt).trans (hc i j hi hj)⟩⟩
/-- A slice that owns its row. -/
abbrev OwnC (E : TypeId) (B : Nat) (w : World) (v : Value) (xs : List Ch) : Prop := w.ownsRow B E 6 v xs.length (flatC xs)
theorem OwnC.rd {E : TypeId} {B : Nat} {w : World} {v : Value} {xs : List Ch} (h : OwnC E B w v xs) : RdC w v xs := by
  rcases h.2 with ⟨h1, h2⟩ | ⟨g, cap, cur, rfl, h1, h2, h3, h4, h5, h6⟩
  · have : xs = [] := List.eq_nil_of_length_eq_zero h2
    subst this
    exact ⟨none, 0, h1, Nat.le_refl _, by omega, fun h => absurd rfl h⟩
  · refine ⟨_, cap, rfl, h3, by simp only [maxLen] at h4; omega, fun _ => ⟨g, 0, rfl, (Array.getElem?_eq_some_iff.1 h2).1, fun i j hi hj => ?_⟩⟩
    rw [cell_of_row w g _ cur E (0, 0) h2, ← flatC_get xs i j hi hj, ← h6, List.getElem?_take, if_pos (by omega)]
    simp
theorem OwnC.later {E : TypeId} {B : Nat} {w w' : World} {v : Value} {xs : List Ch} (h : OwnC E B w v xs) (hb : Below w.heap.size w w') : OwnC E B w' v xs := by
  refine ⟨h.1, ?_⟩
  rcases h.2 with hn | ⟨g, cap, cur, rfl, h1, h2, r⟩
  · exact .inl hn
  · exact .inr ⟨g, cap, cur, rfl, h1, by rw [hb.block g (Array.getElem?_eq_some_iff.1 h2).1]; exact h2, r⟩
theorem OwnC.nil (E : TypeId) (B : Nat) (w : World) : OwnC E B w (.slice none 0 0) [] := ⟨rfl, .inl ⟨rfl, rfl⟩⟩
/-- Only what lies from B on has changed, if an owned row has grown. -/
theorem grown_below {E : TypeId} {B : Nat} {a w w' : World} {v : Value} {n : Nat} {xs : List Value} (h : Below B a w) (ho : w.ownsRow B E 6 v n xs) (hB : B ≤ w.heap.size) (hg : w.grownBy w' v.ownBlock) : Below B a w' :=
  h.trans ⟨hg.os, hg.tape, hg.output, hg.size, fun k hk => hg.block k (by omega) (fun e => by have := (ho.lt k e.symm).1; omega)⟩
/-- A slice of integers. -/
def RdI (w : World) (v : Value) (zs : List Int) : Prop := ∃ ao cap, v = .slice ao zs.length cap ∧ zs.length ≤ cap ∧ (cap : Int) ≤ 9223372036854775807 ∧
  (zs ≠ [] → ∃ b off, ao = some ⟨b, off, .none⟩ ∧ b < w.heap.size ∧ ∀ i, (hi : i < zs.length) → w.cell? ⟨b, off + i, .none⟩ = some (.int .i64 zs[i]))

def stepC (c : Int) : Ch := ⟨3, c, 0, 0, 0, 0⟩
/-- So many rounds. -/
def turnsL (zs : List Int) : Nat → List Ch
  | 0 => []
  | n + 1 => turnsL zs n ++ zs.map stepC
theorem turnsL_length (zs : List Int) (n : Nat) : (turnsL zs n).length = n * zs.length := by
  induction n with
  | zero => simp [turnsL]
  | succ n ih => simp [turnsL, ih, Nat.add_mul]
end Go.Proofs.YtkeiehgojclecaaDoor

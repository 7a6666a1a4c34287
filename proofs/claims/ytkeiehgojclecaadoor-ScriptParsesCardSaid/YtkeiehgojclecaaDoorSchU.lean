/- The walks of package sched: May, Alone. -/
import Derived.Test.YtkeiehgojclecaaDoorSchT

import Derived.Deep.CutBlock

import Derived.Deep.Onto

namespace Go.Proofs.YtkeiehgojclecaaDoor

open Go.RowKit Fl

def mayB (k : Int) : Bool := decide (1 ≤ k ∧ k ≤ 4)
theorem RdI.one (c : Int) (w : World) (t : TypeId) : RdI (w.alloc (.cells #[.int .i64 c] t)) (.slice (some ⟨w.heap.size, 0, .none⟩) 1 1) [c] := by
  refine ⟨_, 1, rfl, Nat.le_refl _, by omega, fun _ => ⟨w.heap.size, 0, rfl, ?_, ?_⟩⟩
  · show _ < (w.heap.push _).size
    rw [Array.size_push]; omega
  · intro i hi
    have hi0 : i = 0 := by simpa using hi
    subst hi0
    exact cell_of_row _ _ _ _ _ (0, 0) (heap_alloc_new w _)

end Go.Proofs.YtkeiehgojclecaaDoor

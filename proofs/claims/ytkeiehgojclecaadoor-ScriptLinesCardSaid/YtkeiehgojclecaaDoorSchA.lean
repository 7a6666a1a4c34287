/- The law's awake. -/
import Derived.Test.YtkeiehgojclecaaDoorSchK

namespace Go.Proofs.YtkeiehgojclecaaDoor

open Go.RowKit Fl

theorem RdB.new {w : World} {g : Nat} {l : List Bool} {t : TypeId} (hg : w.heap[g]? = some (.cells (l.map Value.bool).toArray t (0, 0))) (hn : (l.length : Int) ≤ 9223372036854775807) : RdB w (.slice (some ⟨g, 0, .none⟩) l.length l.length) l := by
  have := RdS.new (sz := 1) (n := l.length) hg (by simp) hn
  show RdS w 1 _ _ _
  simpa using this

end Go.Proofs.YtkeiehgojclecaaDoor

/- The walks of the reference's Alone, Turns. -/
import Derived.Test.YtkeiehgojclecaaDoorSchR

import Derived.Deep.CutBlock

namespace Go.Proofs.YtkeiehgojclecaaDoor

open Go.RowKit Fl

abbrev OR := OwnC 45

theorem turnsR_one (c k : Int) : turnsR [c] k = if 2000 < k then [] else turnsL [c] k.toNat := by
  unfold turnsR
  have : (2000 : Int) / (([c] : List Int).length : Int) = 2000 := by simp
  rw [this]
  simp

end Go.Proofs.YtkeiehgojclecaaDoor

/- A world for the witnesses: the listed variables laid. -/
import Derived.Test.YtkeiehgojclecaaDoorScrDoor

namespace Go.Proofs.YtkeiehgojclecaaDoor

open Go.RowKit Go.ChangeShapes Go.WideShapes Go.ChangeAt

/-- The cells of a row of numbers. -/
def cellsD : DataW Unit → Array Value
  | .agg l => (l.map fun d => match d with | .lit (.int k z) => Value.int k z | _ => undef).toArray
  | _ => #[]
/-- The settled world behind the door's run, and the pinned table. -/
noncomputable def witW (n : Nat) (os : Os) : World :=
  { World.doorLaid Tryd.prog n os with heap := (World.doorLaid Tryd.prog n os).heap.modify 2 fun
      | .cells _ t frozen => .cells (cellsD Go.Pinned.utf8First) t frozen
      | o => o }
theorem wit_met (os : Os) : laidMet Tryd.prog Rows.scriptPrintsRow.laid ((witW 2000 os).forCall (fun _ _ => 0) ⟨#[], #[.agg #[.int .i64 0, .int .i64 0, .int .i64 0], .slice none 0 0], []⟩).memory :=
  laidMet_of_run' 8 (by kernel_rfl) (by kernel_rfl)
end Go.Proofs.YtkeiehgojclecaaDoor

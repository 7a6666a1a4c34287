/- The walk of sched.Same. -/
import Derived.Test.YtkeiehgojclecaaDoorSchV

namespace Go.Proofs.YtkeiehgojclecaaDoor

open Go.RowKit Fl

section

variable {P : Program} {w : World} {a : Addr} {m : Mode}

theorem run_store_float (k : FloatKind) (x : Nat) : (store a (.float k x) m).run P w = stored P w a (.float k x) m := run_store P w a _ m rfl
end

attribute [local go_sem] run_store_float

end Go.Proofs.YtkeiehgojclecaaDoor

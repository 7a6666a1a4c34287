/- min and max of two numbers, kept as they are by the walk. -/
import Derived.Test.YtkeiehgojclecaaDoorRw

namespace Go.Proofs.YtkeiehgojclecaaDoor

theorem run_max_n (P : Program) (w : World) (ts : Array TypeId) (t : TypeId) (k k' : IntKind) (x y : Int) : (Builtin.max_ ts t #[.int k x, .int k' y]).run P w = .ok (.int k (max x y)) w := by
  rw [run_max_int2]
  congr 2
  split <;> omega
theorem run_min_n (P : Program) (w : World) (ts : Array TypeId) (t : TypeId) (k k' : IntKind) (x y : Int) : (Builtin.min_ ts t #[.int k x, .int k' y]).run P w = .ok (.int k (min x y)) w := by
  rw [run_min_int2]
  congr 2
  split <;> omega
end Go.Proofs.YtkeiehgojclecaaDoor

/- The walks of package sched: Turns, Alone, May. -/
import Derived.Test.YtkeiehgojclecaaDoorSchP

import Derived.Deep.CutBlock

namespace Go.Proofs.YtkeiehgojclecaaDoor

open Go.RowKit Fl

def zeroCh : Value := .agg #[.int .i64 0, .int .i64 0, .int .i64 0, .int .i64 0, .int .i64 0, .float .f64 0]
theorem infoCh : (Tryd.prog.info? 46).map (fun i => (i.zero, i.size, i.bytes)) = some (some zeroCh, 6, 48) := by kernel_rfl
abbrev OC := OwnC 46
theorem Ch.one (c : Ch) : ∀ u ∈ c.cells, u.oneCell' = true := by
  intro u hu
  simp only [Ch.cells, List.mem_cons, List.not_mem_nil, or_false] at hu
  rcases hu with rfl | rfl | rfl | rfl | rfl | rfl <;> rfl
def turnsR (zs : List Int) (k : Int) : List Ch := if zs = [] ∨ 2000 / (zs.length : Int) < k then [] else turnsL zs k.toNat

end Go.Proofs.YtkeiehgojclecaaDoor

/- The walk of the laws' comparison of two frames. -/
import Derived.Test.YtngglkefhinkgaaMSt
import Derived.Test.YtngglkefhinkgaaEqR
namespace Go.Proofs.Ytngglkefhinkgaa
open Go.RowKit

set_option maxHeartbeats 1000000 in
theorem same_any (f : Fr) (hf : f.regs.length = 8) (w : World) :
    Calls Try.prog 24 #[.agg f.cells.toArray, .agg f.cells.toArray] w fun e w' => e = .returned (.bool true) ∧ Below w.heap.size w w' := by
  obtain ⟨code, pc, regs⟩ := f
  obtain ⟨e0, e1, e2, e3, e4, e5, e6, e7, rfl⟩ := list8 hf
  have hq := fun w : World => run_equalIn_regs w 9998 [e0, e1, e2, e3, e4, e5, e6, e7] [e0, e1, e2, e3, e4, e5, e6, e7] rfl rfl
  simp only [List.map_cons, List.map_nil, beq_self_eq_true, Nat.reduceAdd] at hq
  simp only [Fr.cells, List.map_cons, List.map_nil]
  clear hf
  go_enter Try.func24, Try.ntmps24
  go_wp2
  all_goals go_ret
  all_goals refine ⟨rfl, by go_grown⟩
end Go.Proofs.Ytngglkefhinkgaa

/- The walks of package sched: May, Alone. -/
import Derived.Test.YtpplmgahpohbmaaSchT
import Derived.Deep.CutBlock
import Derived.Deep.Onto
namespace Go.Proofs.Ytpplmgahpohbmaa
open Go.RowKit Fl

def mayB (k : Int) : Bool := decide (1 ≤ k ∧ k ≤ 4)
theorem may_any (c : Ch) (w : World) : Calls Try.prog 9 #[.agg c.cells.toArray] w fun e w' => e = .returned (.bool (mayB c.kind)) ∧ Below w.heap.size w w' := by
  obtain ⟨kd, cl, a, b, d, bi⟩ := c
  show Calls Try.prog 9 #[.agg #[.int .i64 kd, .int .i64 cl, .int .i64 a, .int .i64 b, .int .i64 d, .float .f64 bi]] w fun e w' => e = .returned (.bool (mayB kd)) ∧ Below w.heap.size w w'
  by_cases h1 : 1 ≤ kd
  · by_cases h2 : kd ≤ 4
    · have hm : mayB kd = true := decide_eq_true ⟨h1, h2⟩
      rw [hm]
      have d1 : decide (kd ≥ 1) = true := decide_eq_true h1
      have d2 : decide (kd ≤ 4) = true := decide_eq_true h2
      go_enter Try.func9, Try.ntmps9
      go_wp2
      go_ret
      exact ⟨rfl, (Below.refl _ _).alloc (Nat.le_refl _) _⟩
    · have hm : mayB kd = false := decide_eq_false (fun h => h2 h.2)
      rw [hm]
      have d1 : decide (kd ≥ 1) = true := decide_eq_true h1
      have d2 : decide (kd ≤ 4) = false := decide_eq_false h2
      go_enter Try.func9, Try.ntmps9
      go_wp2
      go_ret
      exact ⟨rfl, (Below.refl _ _).alloc (Nat.le_refl _) _⟩
  · have hm : mayB kd = false := decide_eq_false (fun h => h1 h.1)
    rw [hm]
    have d1 : decide (kd ≥ 1) = false := decide_eq_false h1
    go_enter Try.func9, Try.ntmps9
    go_wp2
    go_ret
    exact ⟨rfl, (Below.refl _ _).alloc (Nat.le_refl _) _⟩

theorem RdI.one (c : Int) (w : World) (t : TypeId) : RdI (w.alloc (.cells #[.int .i64 c] t)) (.slice (some ⟨w.heap.size, 0, .none⟩) 1 1) [c] := by
  refine ⟨_, 1, rfl, Nat.le_refl _, by omega, fun _ => ⟨w.heap.size, 0, rfl, ?_, ?_⟩⟩
  · show _ < (w.heap.push _).size
    rw [Array.size_push]; omega
  · intro i hi
    have hi0 : i = 0 := by simpa using hi
    subst hi0
    exact cell_of_row _ _ _ _ _ (0, 0) (heap_alloc_new w _)

theorem alone_any (c k : Int) (w : World) (hk0 : -9223372036854775808 ≤ k) (hk1 : k ≤ 9223372036854775807) :
    Calls Try.prog 10 #[.int .i64 c, .int .i64 k] w fun e w' => ∃ v', e = .returned v' ∧ Below w.heap.size w w' ∧ OC w.heap.size w' v' (turnsR [c] k) := by
  go_enter Try.func10, Try.ntmps10
  go_wp2_with (go_at_call 8; refine (turns_any [c] _ k _ (RdI.one c w _) hk0 hk1).mono ?_; rintro e w1 ⟨v', rfl, hb, ho⟩)
  go_ret
  have hs : w.heap.size ≤ (w.alloc (.cells #[.int .i64 c] 3)).heap.size := by
    show _ ≤ (w.heap.push _).size
    rw [Array.size_push]; omega
  exact ⟨_, rfl, ((Below.refl _ _).alloc (Nat.le_refl _) _).trans (hb.mono hs), ho.mono hs⟩
end Go.Proofs.Ytpplmgahpohbmaa

/- The walks of shares, ratios and clamps, of package edge and of the reference. -/
import Derived.Test.YtfknaheijidhcaaEdgeA

import Derived.Test.YtfknaheijidhcaaFlT

namespace Go.Proofs.Ytfknaheijidhcaa

open Go.RowKit Fl

theorem cmpI_cases (a b : Int) : cmpI a b = -1 ∧ a < b ∨ cmpI a b = 0 ∧ a = b ∨ cmpI a b = 1 ∧ b < a := by
  unfold cmpI
  split
  · omega
  · split <;> omega
theorem ge_one (x : Nat) : (FloatKind.f64.format.order x 4607182418800017408 == some .gt || FloatKind.f64.format.order x 4607182418800017408 == some .eq) = (!nan x && decide ((ONE : Int) ≤ iv x)) := by
  have h1 := gtxy x ONE
  have h2 := eqxy x ONE
  unfold ONE at h1 h2
  rw [h1, h2]
  show (gtB x ONE || eqB x ONE) = _
  unfold gtB eqB
  rw [nan_one, iv_one]
  cases nan x
  · simp only [Bool.not_false, Bool.true_and]
    rw [Bool.eq_iff_iff]
    simp only [Bool.or_eq_true, decide_eq_true_eq]
    omega
  · rfl

set_option maxHeartbeats 400000 in
theorem ratio_any (a b : Int) (ha : -9223372036854775808 ≤ a ∧ a ≤ 9223372036854775807) (hb : -9223372036854775808 ≤ b ∧ b ≤ 9223372036854775807) (w : World) : Calls Try.prog 44 #[.int .i64 a, .int .i64 b] w fun e w' => e = .returned (F64 (ratioF a b)) ∧ w' = w := by
  by_cases h : b = 0
  · unfold ratioF
    rw [if_pos h]
    subst h
    by_cases h1 : a = 0
    · rw [if_pos h1]
      subst h1
      go_enter Try.func44, Try.ntmps44
      go_wp2_with (go_at_call 28; refine (mathNaN_any _).mono ?_; rintro e w1 ⟨rfl, rfl⟩)
      go_ret
      exact ⟨rfl, rfl⟩
    · rw [if_neg h1]
      have h1' : (a == 0) = false := by simpa using h1
      by_cases h2 : a < 0
      · rw [if_pos h2]
        have hc : cmpI a 0 = -1 := by unfold cmpI; rw [if_pos h2]
        have hi := inf_any (-1)
        rw [if_neg (by omega)] at hi
        go_enter Try.func44, Try.ntmps44
        go_wp2_with (first
          | (go_at_call 69; refine (hc ▸ cmpInt_any _ _ _).mono ?_; rintro e w1 ⟨rfl, rfl⟩)
          | (go_at_call 72; refine (hi _).mono ?_; rintro e w1 ⟨rfl, rfl⟩))
        go_ret
        exact ⟨rfl, rfl⟩
      · rw [if_neg h2]
        have hc : cmpI a 0 = 1 := by unfold cmpI; rw [if_neg h2, if_pos (by omega)]
        have hi := inf_any 1
        rw [if_pos (by omega)] at hi
        go_enter Try.func44, Try.ntmps44
        go_wp2_with (first
          | (go_at_call 69; refine (hc ▸ cmpInt_any _ _ _).mono ?_; rintro e w1 ⟨rfl, rfl⟩)
          | (go_at_call 72; refine (hi _).mono ?_; rintro e w1 ⟨rfl, rfl⟩))
        go_ret
        exact ⟨rfl, rfl⟩
  · have hr := fun w : World => run_float_arith (P := Try.prog) w .quo 37 .f64 _ _ _ (ratio_some a b ha hb h)
    have hne : (b != 0) = true := by simpa using h
    generalize ratioF a b = r at *
    clear h
    go_enter Try.func44, Try.ntmps44
    go_wp2
    go_ret
    exact ⟨rfl, rfl⟩

end Go.Proofs.Ytfknaheijidhcaa

/- The law SchedTurns: the walk. -/
import Derived.Test.YtkeiehgojclecaaDoorSchA

import Derived.Test.YtkeiehgojclecaaDoorRwO

namespace Go.Proofs.YtkeiehgojclecaaDoor

open Go.RowKit Fl

attribute [local go_sem ↓] Go.wp_at_zero Go.wp_at_succ

theorem RdZ.i {w : World} {v : Value} {zs : List Int} (h : RdZ .i64 w v zs) : RdI w v zs := h.cells
theorem infoInt : (Tryd.prog.info? 3).map (fun i => (i.zero, i.size, i.bytes)) = some (some (.int .i64 0), 1, 8) := by kernel_rfl
theorem ints_one {k : IntKind} (zs : List Int) : ∀ u ∈ zs.map (Value.int k), u.oneCell' = true := by
  intro u hu
  obtain ⟨z, _, rfl⟩ := List.mem_map.1 hu
  rfl
theorem turnsL_get (zs : List Int) (k i : Nat) (hi : i < (turnsL zs k).length) (hm : i % zs.length < zs.length) : (turnsL zs k)[i] = stepC (zs[i % zs.length]) := by
  induction k with
  | zero => simp [turnsL] at hi
  | succ k ih =>
    have hl := turnsL_length zs k
    have e : turnsL zs (k + 1) = turnsL zs k ++ zs.map stepC := rfl
    simp only [e]
    by_cases h : i < (turnsL zs k).length
    · rw [List.getElem_append_left h]; exact ih h
    · have hi2 : i < k * zs.length + zs.length := by
        have := hi
        rw [turnsL_length, Nat.add_mul, Nat.one_mul] at this; exact this
      have e2 : i % zs.length = i - k * zs.length := by
        have : i = (i - k * zs.length) + k * zs.length := by omega
        conv => lhs; rw [this]
        rw [Nat.add_mul_mod_self_right, Nat.mod_eq_of_lt (by omega)]
      rw [List.getElem_append_right (by omega), List.getElem_map]
      congr 1
      simp only [e2, hl]
theorem turnsR_eq (zs : List Int) (k : Nat) (h : k * zs.length ≤ 2000) : turnsR zs (k : Int) = turnsL zs k := by
  unfold turnsR
  by_cases h0 : zs = []
  · subst h0
    rw [if_pos (.inl rfl)]
    have : (turnsL [] k).length = 0 := by rw [turnsL_length]; rfl
    exact (List.eq_nil_of_length_eq_zero this).symm
  · have hl0 : zs.length ≠ 0 := fun h => h0 (List.eq_nil_of_length_eq_zero h)
    have : (k : Int) ≤ 2000 / (zs.length : Int) := (Int.le_ediv_iff_mul_le (by omega)).2 (by
      have : ((k * zs.length : Nat) : Int) ≤ 2000 := by omega
      rwa [Int.natCast_mul] at this)
    rw [if_neg (by simp only [h0, false_or]; omega)]
    simp
theorem turns_fit (zs : List Int) (k : Nat) : ∀ c ∈ turnsL zs k, c.fit := by
  induction k with
  | zero => intro c hc; cases hc
  | succ k ih =>
    intro c hc
    rcases List.mem_append.1 (show c ∈ turnsL zs k ++ zs.map stepC from hc) with h | h
    · exact ih c h
    · obtain ⟨z, _, rfl⟩ := List.mem_map.1 h
      show (0 : Nat) < 18446744073709551616
      decide
theorem sameL_refl (xs : List Ch) : sameL xs xs = true := by
  induction xs with
  | nil => rfl
  | cons x xs ih =>
    show (sameC x x && sameL xs xs) = true
    rw [ih]; simp [sameC]

end Go.Proofs.YtkeiehgojclecaaDoor

/- The kinds of floats, their order, as whole numbers: what package edge and the reference reckon. -/
import Derived.Test.YtkeiehgojclecaaDoorFl

namespace Go.Proofs.YtkeiehgojclecaaDoor

namespace Fl

open Ieee

theorem neg_lt {x : Nat} (hx : x < 18446744073709551616) : neg x = decide (SW ≤ x) := by
  unfold neg SW
  rcases Nat.lt_or_ge x 9223372036854775808 with h | h
  · have : x / 9223372036854775808 = 0 := Nat.div_eq_of_lt h
    simp [this]; omega
  · have : x / 9223372036854775808 = 1 := by rw [Nat.div_eq_iff (by omega)]; omega
    simp [this]; omega
theorem flip_rung (x : Nat) : rung (x ^^^ 2 ^ 63) = rung x := by
  have e : SW = 2 ^ 63 := by decide
  unfold rung
  rw [e, Nat.xor_mod_two_pow, Nat.mod_self, Nat.xor_zero]
theorem flip_neg {x : Nat} : neg (x ^^^ 2 ^ 63) = !neg x := by
  have e : SW = 2 ^ 63 := by decide
  unfold neg
  rw [e, ← Nat.shiftRight_eq_div_pow, ← Nat.shiftRight_eq_div_pow, Nat.shiftRight_xor_distrib]
  have : 2 ^ 63 >>> 63 = 1 := by decide
  rw [this]
  have h := Nat.xor_mod_two_pow (a := x >>> 63) (b := 1) (n := 1)
  have h1 : (2 : Nat) ^ 1 = 2 := rfl
  rw [h1] at h
  rw [h]
  rcases Nat.mod_two_eq_zero_or_one (x >>> 63) with h' | h' <;> rw [h'] <;> decide
theorem flip_iv (x : Nat) : iv (x ^^^ 2 ^ 63) = -iv x := by
  unfold iv
  rw [flip_rung, flip_neg]
  cases neg x <;> simp
theorem flip_nan (x : Nat) : nan (x ^^^ 2 ^ 63) = nan x := by
  unfold nan; rw [flip_rung]
theorem iv_le {x : Nat} (h : nan x = false) : -(INF : Int) ≤ iv x ∧ iv x ≤ INF := by
  unfold nan at h
  have h : rung x ≤ INF := by simpa using h
  unfold iv
  split <;> omega

/-- The kind of a float. -/
def kindI (x : Nat) : Int := if nan x then 0 else if iv x = -(INF : Int) then 1 else if iv x = (INF : Int) then 5 else if iv x < 0 then 2 else if 0 < iv x then 4 else 3
/-- The place in the order of all floats. -/
def key (x : Nat) : Int := if nan x then -(2 * INF + 3 : Int) else if neg x then -(2 * (rung x : Int) + 1) else 2 * (rung x : Int)
def cmpI (a b : Int) : Int := if a < b then -1 else if b < a then 1 else 0

def maxFin : Nat := 9218868437227405311
theorem iv_maxFin : iv maxFin = 9218868437227405311 := by decide
theorem nan_maxFin : nan maxFin = false := by decide
theorem iv_zero : iv 0 = 0 := by decide
theorem nan_zero : nan 0 = false := by decide
theorem isInf_pos (x : Nat) : gtB x maxFin = decide (kindI x = 5) := by
  unfold gtB
  rw [nan_maxFin, iv_maxFin]
  unfold kindI
  cases h : nan x
  · have := iv_le h
    simp only [Bool.not_false, Bool.true_and, Bool.false_eq_true, if_false]
    unfold INF at *
    rw [Bool.eq_iff_iff, decide_eq_true_eq, decide_eq_true_eq]
    split
    · omega
    · split
      · omega
      · split <;> (try split) <;> omega
  · simp
theorem isInf_neg (x : Nat) : gtB (x ^^^ 2 ^ 63) maxFin = decide (kindI x = 1) := by
  rw [isInf_pos]
  unfold kindI
  rw [flip_nan, flip_iv]
  cases h : nan x
  · have := iv_le h
    simp only [Bool.false_eq_true, if_false]
    unfold INF at *
    rw [Bool.eq_iff_iff, decide_eq_true_eq, decide_eq_true_eq]
    by_cases h1 : iv x = -9218868437227405312
    · simp [h1]
    · by_cases h2 : iv x = 9218868437227405312
      · simp [h2]
      · by_cases h3 : iv x < 0
        · rw [if_neg (by omega), if_neg (by omega), if_neg (by omega), if_pos (by omega), if_neg (by omega), if_neg (by omega), if_pos (by omega)]; simp
        · by_cases h4 : 0 < iv x
          · rw [if_neg (by omega), if_neg (by omega), if_pos (by omega), if_neg (by omega), if_neg (by omega), if_neg (by omega), if_pos (by omega)]; simp
          · rw [if_neg (by omega), if_neg (by omega), if_neg (by omega), if_neg (by omega), if_neg (by omega), if_neg (by omega), if_neg (by omega), if_neg (by omega)]; simp
  · simp
theorem lt_zero (x : Nat) : ltB x 0 = (!nan x && decide (iv x < 0)) := by
  unfold ltB; rw [nan_zero, iv_zero]; simp
theorem gt_zero (x : Nat) : gtB x 0 = (!nan x && decide (0 < iv x)) := by
  unfold gtB; rw [nan_zero, iv_zero]; simp
theorem eq_zero (x : Nat) : eqB x 0 = (!nan x && decide (iv x = 0)) := by
  unfold eqB; rw [nan_zero, iv_zero]; simp
theorem eq_self (x : Nat) : eqB x x = !nan x := by
  unfold eqB; cases nan x <;> simp

theorem key_nan {x : Nat} (h : nan x = true) : key x = -(2 * INF + 3 : Int) := by unfold key; rw [if_pos h]
theorem key_num {x : Nat} (h : nan x = false) : key x = if neg x then -(2 * (rung x : Int) + 1) else 2 * (rung x : Int) := by unfold key; rw [if_neg (by simp [h])]
theorem key_gt {x : Nat} (h : nan x = false) : -(2 * INF + 3 : Int) < key x := by
  have := iv_le h
  unfold nan at h
  have h' : rung x ≤ INF := by simpa using h
  rw [key_num (by unfold nan; exact h)]
  split <;> omega
theorem iv_key {x y : Nat} (hx : nan x = false) (hy : nan y = false) (h : iv x < iv y) : key x < key y := by
  rw [key_num hx, key_num hy]
  unfold iv at h
  revert h
  cases neg x <;> cases neg y <;> simp only [if_true, if_false, Bool.false_eq_true] <;> intro h <;> omega
/-- Two numbers that are equal: their signs tell. -/
theorem key_tie {x y : Nat} (hx : nan x = false) (hy : nan y = false) (h : iv x = iv y) : cmpI (key x) (key y) = if neg x = neg y then 0 else if neg x then -1 else 1 := by
  rw [key_num hx, key_num hy]
  unfold iv at h
  unfold cmpI
  revert h
  cases neg x <;> cases neg y <;> simp only [if_true, if_false, Bool.false_eq_true, Bool.true_eq_false] <;> intro h
  · rw [if_neg (by omega), if_neg (by omega)]
  · rw [if_neg (by omega), if_pos (by omega)]
  · rw [if_pos (by omega)]
  · rw [if_neg (by omega), if_neg (by omega)]
/-- Package edge's comparison. -/
def cmpE (x y : Nat) : Int := if kindI x ≠ kindI y then cmpI (kindI x) (kindI y) else if kindI x = 0 then 0 else if kindI x = 3 then cmpI (if neg x then 0 else 1) (if neg y then 0 else 1) else if ltB x y then -1 else if gtB x y then 1 else 0
/-- The reference's. -/
def cmpR (x y : Nat) : Int := if kindI x = 0 ∨ kindI y = 0 then (if kindI x = kindI y then 0 else if kindI x = 0 then -1 else 1) else if ltB x y then -1 else if gtB x y then 1 else if neg x = neg y then 0 else if neg x then -1 else 1
theorem kind_zero {x : Nat} : kindI x = 0 ↔ nan x = true := by
  unfold kindI
  cases nan x
  · simp only [Bool.false_eq_true, if_false, iff_false]
    repeat' split
    all_goals omega
  · simp
theorem cmpR_key (x y : Nat) : cmpR x y = cmpI (key x) (key y) := by
  unfold cmpR
  cases hx : nan x
  · cases hy : nan y
    · have h0 : ¬ kindI x = 0 := by rw [kind_zero, hx]; simp
      have h1 : ¬ kindI y = 0 := by rw [kind_zero, hy]; simp
      rw [if_neg (by simp [h0, h1])]
      unfold ltB gtB
      rw [hx, hy]
      simp only [Bool.not_false, Bool.true_and, decide_eq_true_eq]
      by_cases h : iv x < iv y
      · rw [if_pos h]; unfold cmpI; rw [if_pos (iv_key hx hy h)]
      · rw [if_neg h]
        by_cases h' : iv y < iv x
        · rw [if_pos h']; unfold cmpI
          have := iv_key hy hx h'
          rw [if_neg (by omega), if_pos this]
        · rw [if_neg h', key_tie hx hy (by omega)]
    · have h0 : ¬ kindI x = 0 := by rw [kind_zero, hx]; simp
      have h1 : kindI y = 0 := kind_zero.2 hy
      rw [h1, if_pos (.inr rfl), if_neg h0, if_neg h0, key_nan hy]
      have := key_gt hx
      unfold cmpI
      rw [if_neg (by omega), if_pos this]
  · have h0 : kindI x = 0 := kind_zero.2 hx
    rw [h0, if_pos (.inl rfl), if_pos rfl, key_nan hx]
    cases hy : nan y
    · have h1 : ¬ kindI y = 0 := by rw [kind_zero, hy]; simp
      rw [if_neg (fun e => h1 e.symm)]
      have := key_gt hy
      unfold cmpI
      rw [if_pos this]
    · have h1 : kindI y = 0 := kind_zero.2 hy
      rw [h1, key_nan hy]; simp [cmpI]
/-- Kinds rise with the places. -/
theorem kind_num {x : Nat} (h : nan x = false) : (kindI x = 1 ∧ iv x = -(INF : Int)) ∨ (kindI x = 2 ∧ -(INF : Int) < iv x ∧ iv x < 0) ∨ (kindI x = 3 ∧ iv x = 0) ∨ (kindI x = 4 ∧ 0 < iv x ∧ iv x < (INF : Int)) ∨ (kindI x = 5 ∧ iv x = (INF : Int)) := by
  have h1 := iv_le h
  have hI : (0 : Int) < (INF : Int) := by decide
  unfold kindI
  rw [if_neg (by simp [h])]
  by_cases a : iv x = -(INF : Int)
  · rw [if_pos a]; omega
  · rw [if_neg a]
    by_cases b : iv x = (INF : Int)
    · rw [if_pos b]; omega
    · rw [if_neg b]
      by_cases c : iv x < 0
      · rw [if_pos c]; omega
      · rw [if_neg c]
        by_cases d : 0 < iv x
        · rw [if_pos d]; omega
        · rw [if_neg d]; omega
theorem cmpE_key (x y : Nat) : cmpE x y = cmpI (key x) (key y) := by
  unfold cmpE
  cases hx : nan x
  · cases hy : nan y
    · have kx := kind_num hx
      have ky := kind_num hy
      have hI : (0 : Int) < (INF : Int) := by decide
      unfold ltB gtB
      rw [hx, hy]
      simp only [Bool.not_false, Bool.true_and, decide_eq_true_eq]
      by_cases hk : kindI x = kindI y
      · rw [if_neg (by simpa using hk), if_neg (by omega)]
        by_cases h3 : kindI x = 3
        · rw [if_pos h3, key_tie hx hy (by omega)]
          cases neg x <;> cases neg y <;> rfl
        · rw [if_neg h3]
          by_cases h : iv x < iv y
          · rw [if_pos h]; unfold cmpI; rw [if_pos (iv_key hx hy h)]
          · rw [if_neg h]
            by_cases h' : iv y < iv x
            · rw [if_pos h']; unfold cmpI
              have := iv_key hy hx h'
              rw [if_neg (by omega), if_pos this]
            · rw [if_neg h', key_tie hx hy (by omega)]
              have h4 : iv x = iv y := by omega
              have h5 : iv x ≠ 0 := by omega
              have : neg x = neg y := by
                unfold iv at h4 h5
                cases hnx : neg x <;> cases hny : neg y <;> simp only [hnx, hny, if_true, if_false, Bool.false_eq_true] at * <;> omega
              rw [if_pos this]
      · rw [if_pos (by simpa using hk)]
        by_cases h : iv x < iv y
        · have := iv_key hx hy h
          unfold cmpI; rw [if_pos (by omega), if_pos this]
        · have h' : iv y < iv x := by omega
          have := iv_key hy hx h'
          unfold cmpI; rw [if_neg (by omega), if_pos (by omega), if_neg (by omega), if_pos this]
    · have h1 : kindI y = 0 := kind_zero.2 hy
      have kx := kind_num hx
      rw [h1, if_pos (by omega), key_nan hy]
      have := key_gt hx
      unfold cmpI
      rw [if_neg (by omega), if_pos (by omega), if_neg (by omega), if_pos this]
  · have h0 : kindI x = 0 := kind_zero.2 hx
    rw [h0, key_nan hx]
    cases hy : nan y
    · have ky := kind_num hy
      rw [if_pos (by omega)]
      have := key_gt hy
      unfold cmpI
      rw [if_pos (by omega), if_pos this]
    · have h1 : kindI y = 0 := kind_zero.2 hy
      rw [h1, key_nan hy]; simp [cmpI]
end Fl

end Go.Proofs.YtkeiehgojclecaaDoor

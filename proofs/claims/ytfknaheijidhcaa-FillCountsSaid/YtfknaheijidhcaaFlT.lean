/- A share, a ratio, a float between two, as functions. -/
import Derived.Test.YtfknaheijidhcaaFlS

import Derived.Test.YtfknaheijidhcaaFlE

namespace Go.Proofs.Ytfknaheijidhcaa

namespace Fl

open Ieee

/-- The product's place. -/
def prodR (a b : Nat) : Nat := R (mg a * mg b) (-1074 + (sh a : Int) + (-1074 + (sh b : Int)))
theorem V_prod (a b : Nat) : V a * V b = mg a * mg b * 2 ^ (sh a + sh b) := by
  unfold V; rw [Nat.pow_add]; simp only [Nat.mul_assoc, Nat.mul_left_comm]
theorem prod_e (a b : Nat) : ((sh a + sh b : Nat) : Int) = -1074 + (sh a : Int) + (-1074 + (sh b : Int)) + 1074 + EX := by
  have := EX_eq; omega
theorem prodR_le_INF (a b : Nat) : prodR a b ≤ INF := R_le _ _
theorem prodR_ge {a b r : Nat} (hr : r ≤ INF) (h : V r * 2 ^ EX ≤ V a * V b) : r ≤ prodR a b := R_ge (prod_e a b) hr (by rw [← V_prod]; exact h)
theorem prodR_le {a b r : Nat} (h : V a * V b ≤ V r * 2 ^ EX) : prodR a b ≤ r := R_le_of (prod_e a b) (by rw [← V_prod]; exact h)
theorem prodR_mono {a b a' b' : Nat} (h1 : a ≤ a') (h2 : b ≤ b') : prodR a b ≤ prodR a' b' :=
  R_mono (prod_e a b) (prod_e a' b') (by rw [← V_prod, ← V_prod]; exact Nat.mul_le_mul (V_le h1) (V_le h2))
theorem mul_word {x y : Nat} (hx : rung x < INF) (hy : rung y < INF) : double.mul x y = some (double.word (neg x ^^ neg y) (prodR (rung x) (rung y))) := by
  unfold Format.mul
  rw [read_num hx, read_num hy]
  simp only [Datum.product, Option.map_some, Format.write, nearest_R]
  rfl

theorem ofInt_rung {n : Int} (h0 : -9223372036854775808 ≤ n) (h1 : n ≤ 9223372036854775807) : rung (floatOfInt .f64 n) = R n.natAbs 0 ∧ neg (floatOfInt .f64 n) = decide (n < 0) ∧ R n.natAbs 0 ≤ TOP + 1 ∧ rung (floatOfInt .f64 n) < INF := by
  have hI : INF < SW := INF_lt_SW
  have h63 : n.natAbs ≤ 2 ^ 63 := by
    have : (2 : Nat) ^ 63 = 9223372036854775808 := by decide
    omega
  have h2 : R n.natAbs 0 ≤ TOP + 1 := by
    refine R_le_of (K := 0) (e := EX) (by rw [EX_eq]; omega) ?_
    rw [V_top1, Nat.pow_zero, Nat.mul_one]
    exact Nat.mul_le_mul_right _ h63
  have h3 : TOP + 1 < INF := by decide
  rw [ofInt_eq]
  have h4 := R_le n.natAbs 0
  rw [rung_word _ (by omega), neg_word _ (by omega)]
  exact ⟨rfl, rfl, h2, by omega⟩
theorem ofInt_lt (n : Int) : floatOfInt .f64 n < 18446744073709551616 := by rw [ofInt_eq]; exact word_lt _ (R_le _ _)

theorem iv_one : iv ONE = (ONE : Int) := by decide +kernel
theorem nan_one : nan ONE = false := by decide +kernel
/-- The share of n places. -/
def shareI (x : Nat) (n : Int) : Int :=
  if n < 1 ∨ nan x = true ∨ iv x < 0 then 0 else if (ONE : Int) ≤ iv x then n - 1 else min (T (prodR (rung x) (R n.natAbs 0)) : Int) (n - 1)
theorem share_conv {x : Nat} {n : Int} (hn : 1 ≤ n) (hn2 : n ≤ 9223372036854775807) (h0 : 0 ≤ iv x) (h1 : iv x < (ONE : Int)) :
    ∃ r, floatBits .mul .f64 x (floatOfInt .f64 n) = some r ∧ floatToIntVal .f64 r .i64 = some (T (prodR (rung x) (R n.natAbs 0)) : Int) ∧ (T (prodR (rung x) (R n.natAbs 0)) : Int) ≤ 9223372036854775807 := by
  have hO : ONE < INF := by decide
  have hO0 : 0 < ONE := by decide
  have hx : rung x < ONE := by
    unfold iv at h0 h1
    cases hn : neg x <;> simp only [hn, if_true, if_false, Bool.false_eq_true] at h0 h1 <;> omega
  obtain ⟨e1, e2, e3, e4⟩ := ofInt_rung (n := n) (by omega) hn2
  have hP : prodR (rung x) (R n.natAbs 0) ≤ TOP := prodR_le (share_top hx (by omega))
  have hT := T_le hP
  have hTT := T_top
  refine ⟨double.word (neg x ^^ neg (floatOfInt .f64 n)) (prodR (rung x) (R n.natAbs 0)), ?_, ?_, by omega⟩
  · show double.mul _ _ = _
    rw [mul_word (by omega) e4, e1]
  · have hI : INF < SW := INF_lt_SW
    have hTI := TOP_lt
    unfold floatToIntVal
    have hr := rung_word (neg x ^^ neg (floatOfInt .f64 n)) (r := prodR (rung x) (R n.natAbs 0)) (by omega)
    rw [toInt_eq (by rw [hr]; omega), hr, neg_word _ (by omega)]
    have hz : (neg x ^^ neg (floatOfInt .f64 n)) = true → T (prodR (rung x) (R n.natAbs 0)) = 0 := by
      intro h
      rw [e2, decide_eq_false (by omega), Bool.xor_false] at h
      have hr0 : rung x = 0 := by unfold iv at h0; rw [if_pos h] at h0; omega
      have : prodR (rung x) (R n.natAbs 0) ≤ 0 := prodR_le (by rw [hr0, V_zero]; simp)
      have h2 : prodR (rung x) (R n.natAbs 0) = 0 := by omega
      rw [h2]; decide +kernel
    have e5 : (if (neg x ^^ neg (floatOfInt .f64 n)) = true then -(T (prodR (rung x) (R n.natAbs 0)) : Int) else (T (prodR (rung x) (R n.natAbs 0)) : Int)) = (T (prodR (rung x) (R n.natAbs 0)) : Int) := by
      split
      · rename_i h; rw [hz h]; rfl
      · rfl
    rw [e5]
    have m1 : IntKind.i64.min = -9223372036854775808 := by decide
    have m2 : IntKind.i64.max = 9223372036854775807 := by decide
    simp only [m1, m2]
    rw [if_pos ⟨by omega, by omega⟩]
/-- The ratio. -/
def ratioF (a b : Int) : Nat :=
  if b = 0 then (if a = 0 then 9221120237041090561 else if a < 0 then 18442240474082181120 else 9218868437227405312)
  else (double.div (floatOfInt .f64 a) (floatOfInt .f64 b)).getD 0
/-- The quotient before rounding. -/
def quoMag (a b : Nat) : Nat := 2 * ((mg a <<< (54 + (mg b).log2 - (mg a).log2)) / mg b) + ((mg a <<< (54 + (mg b).log2 - (mg a).log2)) % mg b != 0).toNat
def quoPlace (a b : Nat) : Int := (-1074 + (sh a : Int)) - (-1074 + (sh b : Int)) - (54 + (mg b).log2 - (mg a).log2 : Nat) - 1
def quoR (a b : Nat) : Nat := R (quoMag a b) (quoPlace a b)
theorem mg_pos {r : Nat} (h : r ≠ 0) : 0 < mg r := by
  have hB := B_pos
  unfold mg; split <;> omega
theorem div_word {x y : Nat} (hx : rung x < INF) (hy : rung y < INF) (h0 : rung y ≠ 0) : double.div x y = some (double.word (neg x ^^ neg y) (quoR (rung x) (rung y))) := by
  have hm := mg_pos h0
  have e : double.fractionBits + 2 = 54 := rfl
  unfold Format.div
  rw [read_num hx, read_num hy, e]
  simp only [Datum.quotient]
  rw [if_neg (by omega)]
  simp only [Option.map_some, Format.write, nearest_R]
  rfl
theorem ratio_lt (a b : Int) (ha : -9223372036854775808 ≤ a ∧ a ≤ 9223372036854775807) (hb : -9223372036854775808 ≤ b ∧ b ≤ 9223372036854775807) : ratioF a b < 18446744073709551616 := by
  unfold ratioF
  split
  · split
    · omega
    · split <;> omega
  · rename_i h
    obtain ⟨e1, _, _, e4⟩ := ofInt_rung ha.1 ha.2
    obtain ⟨f1, _, _, f4⟩ := ofInt_rung hb.1 hb.2
    have h0 : rung (floatOfInt .f64 b) ≠ 0 := by
      rw [f1]
      have : 1 ≤ R b.natAbs 0 := R_ge (K := 0) (e := EX) (by rw [EX_eq]; omega) (by decide) (by
        have h1 : V 1 = 1 := by decide +kernel
        rw [h1, Nat.pow_zero, Nat.mul_one]
        exact Nat.mul_pos (by omega) (two_pos EX))
      omega
    rw [div_word e4 f4 h0]
    exact word_lt _ (R_le _ _)
theorem ratio_some (a b : Int) (ha : -9223372036854775808 ≤ a ∧ a ≤ 9223372036854775807) (hb : -9223372036854775808 ≤ b ∧ b ≤ 9223372036854775807) (h : b ≠ 0) : floatBits .quo .f64 (floatOfInt .f64 a) (floatOfInt .f64 b) = some (ratioF a b) := by
  obtain ⟨e1, _, _, e4⟩ := ofInt_rung ha.1 ha.2
  obtain ⟨f1, _, _, f4⟩ := ofInt_rung hb.1 hb.2
  have h0 : rung (floatOfInt .f64 b) ≠ 0 := by
    rw [f1]
    have : 1 ≤ R b.natAbs 0 := R_ge (K := 0) (e := EX) (by rw [EX_eq]; omega) (by decide) (by
      have h1 : V 1 = 1 := by decide +kernel
      rw [h1, Nat.pow_zero, Nat.mul_one]
      exact Nat.mul_pos (by omega) (two_pos EX))
    omega
  unfold ratioF
  rw [if_neg h]
  show double.div _ _ = _
  rw [div_word e4 f4 h0]; rfl
/-- A float brought between two. -/
def clampF (x lo hi : Nat) : Nat := if nan x = true ∨ nan lo = true ∨ nan hi = true then lo else if key hi < key lo ∨ key x < key lo then lo else if key hi < key x then hi else x
theorem clamp_lt {x lo hi : Nat} (h0 : x < 18446744073709551616) (h1 : lo < 18446744073709551616) (h2 : hi < 18446744073709551616) : clampF x lo hi < 18446744073709551616 := by
  unfold clampF
  split
  · exact h1
  · split
    · exact h1
    · split <;> assumption
end Fl

end Go.Proofs.Ytfknaheijidhcaa

/- Shares rise; a quotient of two small integers, rounded, lies as near as one wishes; the share of so many of so many. -/
import Derived.Test.YtfknaheijidhcaaFlT

namespace Go.Proofs.Ytfknaheijidhcaa

namespace Fl

open Ieee

theorem prodR_zero (b : Nat) : prodR 0 b = 0 := by
  have : prodR 0 b ≤ 0 := prodR_le (by rw [V_zero]; simp)
  omega
theorem T_zero : T 0 = 0 := by decide +kernel
theorem shareI_bd (x : Nat) {n : Int} (hn : 1 ≤ n) : 0 ≤ shareI x n ∧ shareI x n < n := by
  unfold shareI
  split
  · omega
  · split
    · omega
    · omega
/-- A share rises with the float. -/
theorem shareI_mono {x y : Nat} {n : Int} (hn : 1 ≤ n) (h : key x ≤ key y) : shareI x n ≤ shareI y n := by
  have hb := shareI_bd x hn
  have hb2 := shareI_bd y hn
  cases hx : nan x
  · cases hy : nan y
    · have hiv : iv x ≤ iv y := by
        rcases Int.lt_or_le (iv y) (iv x) with h1 | h1
        · have := iv_key hy hx h1; omega
        · exact h1
      by_cases h1 : iv x < 0
      · have : shareI x n = 0 := by unfold shareI; rw [if_pos (.inr (.inr h1))]
        omega
      · by_cases h2 : (ONE : Int) ≤ iv y
        · have : shareI y n = n - 1 := by unfold shareI; rw [hy, if_neg (by simp; omega), if_pos h2]
          omega
        · have ex : shareI x n = min (T (prodR (rung x) (R n.natAbs 0)) : Int) (n - 1) := by unfold shareI; rw [hx, if_neg (by simp; omega), if_neg (by omega)]
          have ey : shareI y n = min (T (prodR (rung y) (R n.natAbs 0)) : Int) (n - 1) := by unfold shareI; rw [hy, if_neg (by simp; omega), if_neg (by omega)]
          have hr : rung x ≤ rung y := by
            unfold iv at h1 h2 hiv
            cases hnx : neg x <;> cases hny : neg y <;> simp only [hnx, hny, if_true, if_false, Bool.false_eq_true] at h1 h2 hiv <;> omega
          have := T_le (prodR_mono hr (Nat.le_refl (R n.natAbs 0)))
          omega
    · have hk := key_nan hy
      have := key_gt hx
      omega
  · have : shareI x n = 0 := by unfold shareI; rw [if_pos (.inr (.inl hx))]
    rw [this]; exact hb2.1

/-- What is told of a rounded quotient of two integers. -/
theorem int_form {A : Nat} (h0 : A ≠ 0) (hA : A < 2 * B) : ∃ a, R A 0 = a ∧ V a = A * 2 ^ EX ∧ a < INF ∧ a ≠ 0 ∧ (mg a).log2 = 52 ∧ sh a + 52 = EX + A.log2 := by
  have hB := B_pos
  obtain ⟨h1, h2⟩ := R_int A hA
  refine ⟨_, rfl, h1, h2, ?_, ?_⟩
  · intro h
    rw [h, V_zero] at h1
    have := Nat.mul_pos (show 0 < A by omega) (two_pos EX)
    omega
  · generalize R A 0 = a at *
    obtain ⟨l1, l2⟩ := log_bd h0
    have hEX : 52 ≤ EX := by rw [EX_eq]; omega
    have hge : B ≤ a := by
      rcases Nat.lt_or_ge a B with h | h
      · have h3 : V a = a := by unfold V mg sh; rw [if_pos h, if_pos h]; simp
        rw [h3] at h1
        have h4 : 2 ^ 52 ≤ 2 ^ EX := Nat.pow_le_pow_right (by omega) hEX
        have h5 := Nat.mul_le_mul_right (2 ^ EX) (show 1 ≤ A by omega)
        rw [Nat.one_mul] at h5
        rw [← B_eq] at h4
        generalize A * 2 ^ EX = t at *
        generalize 2 ^ EX = u at *
        omega
      · exact h
    have hm : B ≤ mg a ∧ mg a < 2 * B := by
      unfold mg; rw [if_neg (by omega)]
      have := Nat.mod_lt a hB
      omega
    have hmn : mg a ≠ 0 := by omega
    have hl : (mg a).log2 = 52 := by
      have e1 : (52 : Nat) ≤ (mg a).log2 := by rw [Nat.le_log2 hmn, ← B_eq]; exact hm.1
      have e2 : (mg a).log2 < 53 := by
        rw [Nat.log2_lt hmn]
        have : (2 : Nat) ^ 53 = 2 * B := by decide
        omega
      omega
    refine ⟨hl, ?_⟩
    have h3 : mg a * 2 ^ sh a = A * 2 ^ EX := h1
    -- both sides have the same number of digits
    have u1 : 2 ^ (52 + sh a) ≤ A * 2 ^ EX := by rw [← h3, Nat.pow_add, ← B_eq]; exact Nat.mul_le_mul_right _ hm.1
    have u2 : A * 2 ^ EX < 2 ^ (A.log2 + 1 + EX) := by rw [Nat.pow_add]; exact Nat.mul_lt_mul_of_pos_right l2 (two_pos EX)
    have u3 : 2 ^ (A.log2 + EX) ≤ A * 2 ^ EX := by rw [Nat.pow_add]; exact Nat.mul_le_mul_right _ l1
    have u4 : A * 2 ^ EX < 2 ^ (53 + sh a) := by
      have : (2 : Nat) ^ 53 = 2 * B := by decide
      rw [← h3, Nat.pow_add, this]; exact Nat.mul_lt_mul_of_pos_right hm.2 (two_pos _)
    have v1 : 52 + sh a < A.log2 + 1 + EX := (Nat.pow_lt_pow_iff_right (by omega)).1 (Nat.lt_of_le_of_lt u1 u2)
    have v2 : A.log2 + EX < 53 + sh a := (Nat.pow_lt_pow_iff_right (by omega)).1 (Nat.lt_of_le_of_lt u3 u4)
    omega
theorem mul_five (g u c w s f x : Nat) (e : u * w = s * f) : g * u * c * w * x = g * (c * s) * f * x := by
  have : g * u * c * w * x = g * c * (u * w) * x := by ac_rfl
  rw [this, e]; ac_rfl
theorem mul_abc (g c x f : Nat) : g * (c * x) * f * x = g * c * (x * f * x) := by ac_rfl
theorem mul_six (a f s t x : Nat) : a * f * (s * t) * x = (a * s) * t * f * x := by ac_rfl
theorem mul_abd (a x t f : Nat) : a * x * t * f * x = a * t * (x * f * x) := by ac_rfl
theorem mul_four (g u e : Nat) : g * (2 * u * e) = 2 * (g * u) * e := by ac_rfl
/-- The rounded quotient lies between two floats between which the quotient lies. -/
theorem quo_bounds {A C a c t G H g h : Nat} (ha : V a = A * 2 ^ EX) (hc : V c = C * 2 ^ EX) (hla : (mg a).log2 = 52) (hlc : (mg c).log2 = 52) (hC : C ≠ 0) (hu : sh a + t ≤ 54 + sh c) (ht : t ≤ EX)
    (hG : G * C ≤ A * 2 ^ t) (hH : A * 2 ^ t ≤ H * C) (hg : V g = G * 2 ^ (EX - t)) (hh : V h = H * 2 ^ (EX - t)) (hgI : g ≤ INF) : g ≤ quoR a c ∧ quoR a c ≤ h := by
  have ha' : mg a * 2 ^ sh a = A * 2 ^ EX := ha
  have hc' : mg c * 2 ^ sh c = C * 2 ^ EX := hc
  have hcp : 0 < mg c := by
    rcases Nat.eq_zero_or_pos (mg c) with h0 | h0
    · rw [h0, Nat.zero_mul] at hc'
      have := Nat.mul_pos (show 0 < C by omega) (two_pos EX)
      omega
    · exact h0
  obtain ⟨u, hu'⟩ : ∃ u, 54 + sh c = sh a + t + u := ⟨54 + sh c - sh a - t, by omega⟩
  have hmore : 54 + (mg c).log2 - (mg a).log2 = 54 := by omega
  -- what the quotient's digits are
  have e : 2 ^ u * 2 ^ (sh a + t) = 2 ^ sh c * 2 ^ 54 := by rw [← Nat.pow_add, ← Nat.pow_add]; congr 1; omega
  have left : ∀ G : Nat, G * 2 ^ u * mg c * 2 ^ (sh a + t) * 2 ^ EX = (G * C) * (2 ^ EX * 2 ^ 54 * 2 ^ EX) := fun G => by
    rw [mul_five G _ _ _ _ _ _ e, hc', mul_abc]
  have right : mg a * 2 ^ 54 * 2 ^ (sh a + t) * 2 ^ EX = (A * 2 ^ t) * (2 ^ EX * 2 ^ 54 * 2 ^ EX) := by
    rw [Nat.pow_add, mul_six, ha', mul_abd]
  have key1 : G * 2 ^ u * mg c ≤ mg a * 2 ^ 54 := by
    have h1 : G * 2 ^ u * mg c * 2 ^ (sh a + t) * 2 ^ EX ≤ mg a * 2 ^ 54 * 2 ^ (sh a + t) * 2 ^ EX := by
      rw [left, right]; exact Nat.mul_le_mul_right _ hG
    exact Nat.le_of_mul_le_mul_right (Nat.le_of_mul_le_mul_right h1 (two_pos EX)) (two_pos _)
  have key2 : mg a * 2 ^ 54 ≤ H * 2 ^ u * mg c := by
    have h1 : mg a * 2 ^ 54 * 2 ^ (sh a + t) * 2 ^ EX ≤ H * 2 ^ u * mg c * 2 ^ (sh a + t) * 2 ^ EX := by
      rw [left, right]; exact Nat.mul_le_mul_right _ hH
    exact Nat.le_of_mul_le_mul_right (Nat.le_of_mul_le_mul_right h1 (two_pos EX)) (two_pos _)
  clear left right e
  have q1 : G * 2 ^ u ≤ mg a * 2 ^ 54 / mg c := (Nat.le_div_iff_mul_le hcp).2 key1
  have q2 : quoMag a c ≤ 2 * (H * 2 ^ u) := by
    unfold quoMag
    rw [hmore, Nat.shiftLeft_eq]
    have hd := Nat.div_add_mod (mg a * 2 ^ 54) (mg c)
    generalize mg a * 2 ^ 54 = D at *
    generalize H * 2 ^ u = X at *
    have hX : D / mg c ≤ X := by
      rw [Nat.div_le_iff_le_mul hcp]
      omega
    by_cases hr : D % mg c = 0
    · have : (D % mg c != 0) = false := by simpa using hr
      rw [this, Bool.toNat_false, Nat.add_zero]; exact Nat.mul_le_mul_left 2 hX
    · have hne : D / mg c ≠ X := by
        intro e
        rw [e, Nat.mul_comm] at hd
        omega
      have : (D % mg c != 0).toNat ≤ 1 := by cases (D % mg c != 0) <;> decide
      omega
  have q3 : 2 * (G * 2 ^ u) ≤ quoMag a c := by
    unfold quoMag
    rw [hmore, Nat.shiftLeft_eq]
    have := Nat.mul_le_mul_left 2 q1
    omega
  have hplace : quoPlace a c = (sh a : Int) - sh c - 55 := by
    unfold quoPlace; rw [hmore]; omega
  -- with enough digits below the least
  obtain ⟨e, he⟩ : ∃ e : Nat, (e : Int) = quoPlace a c + 1074 + (sh c + 55 : Nat) := ⟨EX + sh a, by rw [hplace, EX_eq]; omega⟩
  have he2 : e = EX + sh a := by have := EX_eq; omega
  have pw : 2 ^ (EX - t) * 2 ^ (sh c + 55) = 2 * 2 ^ u * 2 ^ e := by
    rw [← Nat.pow_add, Nat.mul_assoc, ← Nat.pow_add, ← Nat.pow_succ']
    congr 1; omega
  constructor
  · refine R_ge he hgI ?_
    rw [hg, Nat.mul_assoc, pw]
    rw [mul_four]; exact Nat.mul_le_mul_right _ q3
  · refine R_le_of he ?_
    rw [hh, Nat.mul_assoc, pw]
    rw [mul_four]; exact Nat.mul_le_mul_right _ q2
end Fl

end Go.Proofs.Ytfknaheijidhcaa

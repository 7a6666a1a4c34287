/- A ratio of two small integers: its kind, turned about its sign turns; times its divisor, it is its dividend but for less than one. -/
import Derived.Test.YtfknaheijidhcaaFlV

namespace Go.Proofs.Ytfknaheijidhcaa

namespace Fl

open Ieee

/-- The quotient cut at so many digits as the divisor has, and three more. -/
theorem cut_ratio (A C t : Nat) (hA : A ≠ 0) (hC : C ≠ 0) (ht : 4 * C ≤ 2 ^ t) : ∃ G, G * C ≤ A * 2 ^ t ∧ A * 2 ^ t ≤ (G + 1) * C ∧ (4 * A - 1) * 2 ^ t ≤ 4 * (G * C) ∧ 4 * ((G + 1) * C) ≤ (4 * A + 1) * 2 ^ t ∧ 1 ≤ G := by
  refine ⟨A * 2 ^ t / C, ?_⟩
  have hdm := Nat.div_add_mod (A * 2 ^ t) C
  have hml := Nat.mod_lt (A * 2 ^ t) (show 0 < C by omega)
  have h1 : 1 ≤ A * 2 ^ t / C := by
    rw [Nat.le_div_iff_mul_le (by omega)]
    have := Nat.mul_le_mul_right (2 ^ t) (show 1 ≤ A by omega)
    generalize A * 2 ^ t = X at *
    generalize 2 ^ t = Y at *
    omega
  generalize A * 2 ^ t % C = r at *
  generalize A * 2 ^ t / C = G at *
  have e1 : (G + 1) * C = C * G + C := by rw [Nat.add_mul, Nat.one_mul, Nat.mul_comm G]
  have e2 : (4 * A - 1) * 2 ^ t + 2 ^ t = 4 * (A * 2 ^ t) := by
    have : 4 * A = (4 * A - 1) + 1 := by omega
    rw [← Nat.mul_assoc, this, Nat.add_mul (4 * A - 1) 1, Nat.one_mul]; rfl
  have e3 : (4 * A + 1) * 2 ^ t = 4 * (A * 2 ^ t) + 2 ^ t := by rw [Nat.add_mul, Nat.one_mul, Nat.mul_assoc]
  have e4 : G * C = C * G := Nat.mul_comm _ _
  rw [e1, e3, e4]
  generalize C * G = Z at *
  generalize (4 * A - 1) * 2 ^ t = U at *
  generalize A * 2 ^ t = X at *
  generalize 2 ^ t = Y at *
  omega

theorem V_eq_lt {r s : Nat} (h : V r < V s) : r < s := V_lt_iff.1 h
theorem V_le_iff {r s : Nat} (h : V r ≤ V s) : r ≤ s := by
  rcases Nat.lt_or_ge s r with h1 | h1
  · have := V_lt h1; omega
  · exact h1
theorem mul_swap (x p t q : Nat) : x * p * (q * t) = x * t * (p * q) := by ac_rfl
theorem mul_swap2 (x p t : Nat) : x * p * (4 * t) = 4 * x * (p * t) := by ac_rfl
/-- A ratio's place, and what it is times its divisor. -/
theorem ratio_mag (A C : Nat) (hA : A ≠ 0) (hC : C ≠ 0) (hA2 : A ≤ 2147483648) (hC2 : C ≤ 2147483648) :
    1 ≤ quoR (R A 0) (R C 0) ∧ quoR (R A 0) (R C 0) < INF ∧ (4 * A - 1) * 2 ^ (EX - 2) ≤ V (prodR (quoR (R A 0) (R C 0)) (R C 0)) ∧ V (prodR (quoR (R A 0) (R C 0)) (R C 0)) ≤ (4 * A + 1) * 2 ^ (EX - 2) := by
  have hB : B = 4503599627370496 := rfl
  obtain ⟨a, ea, va, aI, a0, la, sa⟩ := int_form hA (by omega)
  obtain ⟨c, ec, vc, cI, c0, lc, sc⟩ := int_form hC (by omega)
  rw [ea, ec]
  obtain ⟨la1, la2⟩ := log_bd hA
  obtain ⟨lc1, lc2⟩ := log_bd hC
  have hlA : A.log2 ≤ 31 := by
    rcases Nat.lt_or_ge 31 A.log2 with h | h
    · have := Nat.pow_le_pow_right (n := 2) (by omega) (show 32 ≤ A.log2 from h)
      have e : (2 : Nat) ^ 32 = 4294967296 := by decide
      omega
    · exact h
  have hlC : C.log2 ≤ 31 := by
    rcases Nat.lt_or_ge 31 C.log2 with h | h
    · have := Nat.pow_le_pow_right (n := 2) (by omega) (show 32 ≤ C.log2 from h)
      have e : (2 : Nat) ^ 32 = 4294967296 := by decide
      omega
    · exact h
  obtain ⟨t, ht⟩ : ∃ t, t = C.log2 + 3 := ⟨_, rfl⟩
  have h4 : 4 * C ≤ 2 ^ t := by
    have e : 2 ^ t = 4 * 2 ^ (C.log2 + 1) := by rw [ht, show C.log2 + 3 = C.log2 + 1 + 2 from rfl, Nat.pow_add _ _ 2, Nat.mul_comm]
    rw [e]; omega
  have h8 : 2 ^ t ≤ 8 * C := by
    have e : 2 ^ t = 8 * 2 ^ C.log2 := by rw [ht, Nat.pow_add, Nat.mul_comm]
    rw [e]; omega
  obtain ⟨G, g1, g2, g3, g4, g5⟩ := cut_ratio A C t hA hC h4
  have hG : G ≤ 8 * A := by
    have h := Nat.mul_le_mul_left A h8
    have e : A * (8 * C) = 8 * A * C := by ac_rfl
    rw [e] at h
    exact Nat.le_of_mul_le_mul_right (Nat.le_trans g1 h) (by omega)
  have hE : t ≤ EX := by rw [EX_eq]; omega
  obtain ⟨g, hg, hgI⟩ := rep (G := G) (s := EX - t) (by omega) (by rw [EX_eq]; omega)
  obtain ⟨h, hh, hhI⟩ := rep (G := G + 1) (s := EX - t) (by omega) (by rw [EX_eq]; omega)
  obtain ⟨f1, f2⟩ := quo_bounds (t := t) va vc la lc hC (by omega) hE g1 g2 hg hh hgI
  have hg1 : 1 ≤ g := by
    rcases Nat.eq_zero_or_pos g with h0 | h0
    · rw [h0, V_zero] at hg
      have := Nat.mul_pos (show 0 < G by omega) (two_pos (EX - t))
      omega
    · exact h0
  have hhF : h < INF := by
    obtain ⟨u, hu, huI⟩ := rep (G := 2 * B - 1) (s := EX) (by omega) (by rw [EX_eq]; omega)
    have hI : V INF = B * 2 ^ 2046 := by decide +kernel
    apply V_eq_lt
    rw [hh]
    have h1 : (G + 1) * 2 ^ (EX - t) ≤ (2 * B - 1) * 2 ^ EX := Nat.mul_le_mul (by omega) (Nat.pow_le_pow_right (by omega) (by omega))
    refine Nat.lt_of_le_of_lt h1 ?_
    have e : (2 * B - 1) * 2 ^ EX < V INF := by rw [hI]; decide +kernel
    exact e
  refine ⟨by omega, by omega, ?_⟩
  generalize quoR a c = f at *
  have hpow := pow_sub_le t hE
  obtain ⟨rl, hrl, hrlI⟩ := rep (G := 4 * A - 1) (s := EX - 2) (by omega) (by rw [EX_eq]; omega)
  obtain ⟨ru, hru, hruI⟩ := rep (G := 4 * A + 1) (s := EX - 2) (by omega) (by rw [EX_eq]; omega)
  have hpow2 := pow_sub_le 2 (by rw [EX_eq]; omega)
  have p4 : (2 : Nat) ^ 2 = 4 := rfl
  rw [p4] at hpow2
  have q1 : rl ≤ prodR f c := by
    refine prodR_ge hrlI ?_
    refine Nat.le_trans ?_ (Nat.mul_le_mul_right _ (V_le f1))
    rw [hrl, hg, vc, mul_gk]
    refine Nat.mul_le_mul_right _ ?_
    refine Nat.le_of_mul_le_mul_right (c := 4 * 2 ^ t) ?_ (Nat.mul_pos (by omega) (two_pos t))
    have e1 : (4 * A - 1) * 2 ^ (EX - 2) * (4 * 2 ^ t) = (4 * A - 1) * 2 ^ t * (2 ^ (EX - 2) * 4) := mul_swap _ _ _ _
    have e2 : G * C * 2 ^ (EX - t) * (4 * 2 ^ t) = 4 * (G * C) * (2 ^ (EX - t) * 2 ^ t) := mul_swap2 _ _ _
    rw [e1, e2, hpow2, hpow]
    exact Nat.mul_le_mul_right _ g3
  have q2 : prodR f c ≤ ru := by
    refine prodR_le ?_
    refine Nat.le_trans (Nat.mul_le_mul_right _ (V_le f2)) ?_
    rw [hru, hh, vc, mul_gk]
    refine Nat.mul_le_mul_right _ ?_
    refine Nat.le_of_mul_le_mul_right (c := 4 * 2 ^ t) ?_ (Nat.mul_pos (by omega) (two_pos t))
    have e1 : (4 * A + 1) * 2 ^ (EX - 2) * (4 * 2 ^ t) = (4 * A + 1) * 2 ^ t * (2 ^ (EX - 2) * 4) := mul_swap _ _ _ _
    have e2 : (G + 1) * C * 2 ^ (EX - t) * (4 * 2 ^ t) = 4 * ((G + 1) * C) * (2 ^ (EX - t) * 2 ^ t) := mul_swap2 _ _ _
    rw [e1, e2, hpow2, hpow]
    exact Nat.mul_le_mul_right _ g4
  have v1 := V_le q1
  have v2 := V_le q2
  rw [hrl] at v1
  rw [hru] at v2
  exact ⟨v1, v2⟩
end Fl

end Go.Proofs.Ytfknaheijidhcaa

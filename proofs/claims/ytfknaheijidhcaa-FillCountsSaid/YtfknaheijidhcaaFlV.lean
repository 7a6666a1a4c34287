/- So many and a half of so many is the share of so many. -/
import Derived.Test.YtfknaheijidhcaaFlU

import Derived.Lib.Hide

namespace Go.Proofs.Ytfknaheijidhcaa

namespace Fl

open Ieee

theorem pow_sub_le (t : Nat) (ht : t ≤ EX) : 2 ^ (EX - t) * 2 ^ t = 2 ^ EX := by rw [← Nat.pow_add, Nat.sub_add_cancel ht]
theorem mul_gk (g p k q : Nat) : g * p * (k * q) = g * k * p * q := by ac_rfl
theorem cut_forty (i k Q : Nat) (hk : k ≤ 65536) (hi : 2 * i + 1 ≤ k) (hQ : 65536 ≤ Q) : ∃ G, G * (2 * k) ≤ (2 * i + 1) * (4 * Q) ∧ (2 * i + 1) * (4 * Q) ≤ (G + 1) * (2 * k) ∧ i * (4 * Q) ≤ G * k ∧ (G + 1) * k ≤ (4 * i + 3) * Q ∧ G + 1 < 4 * Q := by
  refine ⟨(2 * i + 1) * (4 * Q) / (2 * k), ?_⟩
  have hdm := Nat.div_add_mod ((2 * i + 1) * (4 * Q)) (2 * k)
  have hml := Nat.mod_lt ((2 * i + 1) * (4 * Q)) (show 0 < 2 * k by omega)
  generalize (2 * i + 1) * (4 * Q) % (2 * k) = r at *
  generalize (2 * i + 1) * (4 * Q) / (2 * k) = G at *
  have e1 : 2 * k * G = 2 * (G * k) := by ac_rfl
  have e2 : (2 * i + 1) * (4 * Q) = 8 * (i * Q) + 4 * Q := by
    rw [Nat.add_mul (2 * i) 1 (4 * Q), Nat.one_mul, Nat.mul_mul_mul_comm]
  have e3 : G * (2 * k) = 2 * (G * k) := by ac_rfl
  have e4 : (G + 1) * (2 * k) = 2 * (G * k) + 2 * k := by rw [Nat.add_mul G 1 (2 * k), Nat.one_mul, e3]
  have e5 : i * (4 * Q) = 4 * (i * Q) := by ac_rfl
  have e6 : (G + 1) * k = G * k + k := by rw [Nat.add_mul G 1 k, Nat.one_mul]
  have e7 : (4 * i + 3) * Q = 4 * (i * Q) + 3 * Q := by rw [Nat.add_mul (4 * i) 3 Q, Nat.mul_assoc]
  have e8 : (4 * Q - 1) * k + k = 4 * (Q * k) := by
    have : 4 * Q = (4 * Q - 1) + 1 := by omega
    rw [← Nat.mul_assoc, this, Nat.add_mul (4 * Q - 1) 1 k, Nat.one_mul]; rfl
  have e9 : 2 * (i * Q) + Q ≤ Q * k := by
    have := Nat.mul_le_mul_left Q hi
    have e : Q * (2 * i + 1) = 2 * (i * Q) + Q := by rw [Nat.mul_add, Nat.mul_one]; congr 1; ac_rfl
    omega
  have e10 : 4 * Q - 1 ≤ G → (4 * Q - 1) * k ≤ G * k := fun h => Nat.mul_le_mul_right k h
  rw [e1, e2] at hdm
  rw [e2, e3, e4, e5, e6, e7]
  generalize G * k = X at *
  generalize i * Q = Y at *
  generalize Q * k = Z at *
  generalize (4 * Q - 1) * k = Wk at *
  refine ⟨by omega, by omega, by omega, by omega, ?_⟩
  rcases Nat.lt_or_ge (G + 1) (4 * Q) with h | h
  · exact h
  · have := e10 (by omega)
    omega
theorem share_ratio (i k : Nat) (hk : k ≤ 65536) (hi : 2 * i + 1 ≤ k) : ratioF (2 * i + 1) (2 * k) < 18446744073709551616 ∧ shareI (ratioF (2 * i + 1) (2 * k)) k = i := by
  refine ⟨ratio_lt _ _ (by omega) (by omega), ?_⟩
  have hB : B = 4503599627370496 := rfl
  obtain ⟨a, ea, va, aI, a0, la, sa⟩ := int_form (A := 2 * i + 1) (by omega) (by omega)
  obtain ⟨c, ec, vc, cI, c0, lc, sc⟩ := int_form (A := 2 * k) (by omega) (by omega)
  have hlog : (2 * i + 1).log2 ≤ (2 * k).log2 := by
    rw [Nat.le_log2 (by omega)]
    have := Nat.log2_self_le (n := 2 * i + 1) (by omega)
    omega
  -- the quotient, cut at forty digits
  obtain ⟨Q, hQ, hQ1⟩ : ∃ Q : Nat, (2 : Nat) ^ 38 = Q ∧ 65536 ≤ Q := ⟨_, rfl, by decide⟩
  have p40 : (2 : Nat) ^ 40 = 4 * Q := by rw [← hQ]
  have hQB : 4 * Q < 2 * B := by rw [← p40]; decide
  obtain ⟨G, g1, g2, gk1, gk2, hGb⟩ := cut_forty i k Q hk hi hQ1
  rw [← p40] at g1 g2 hGb
  have hGB : G + 1 < 2 * B := by rw [p40] at hGb; omega
  obtain ⟨g, hg, hgI⟩ := rep (G := G) (s := EX - 40) (by omega) (by rw [EX_eq]; omega)
  obtain ⟨h, hh, hhI⟩ := rep (G := G + 1) (s := EX - 40) hGB (by rw [EX_eq]; omega)
  obtain ⟨f1, f2⟩ := quo_bounds (t := 40) va vc la lc (by omega) (by omega) (by rw [EX_eq]; omega) g1 g2 hg hh hgI
  have hpow := pow_sub_le 40 (by rw [EX_eq]; omega)
  have hhO : h < ONE := by
    rw [← V_lt_iff, hh, V_one]
    show _ < 2 ^ EX
    rw [← hpow, Nat.mul_comm]
    exact Nat.mul_lt_mul_of_pos_left hGb (two_pos _)
  have hpow := Lib.hid hpow
  -- the ratio
  have hO : ONE < INF := by decide
  have hI : INF < SW := INF_lt_SW
  have hx : ratioF (2 * i + 1) (2 * k) = double.word false (quoR a c) := by
    unfold ratioF
    obtain ⟨e1, e2, _, e4⟩ := ofInt_rung (n := 2 * (i : Int) + 1) (by omega) (by omega)
    obtain ⟨d1, d2, _, d4⟩ := ofInt_rung (n := 2 * (k : Int)) (by omega) (by omega)
    have n1 : (2 * (i : Int) + 1).natAbs = 2 * i + 1 := by omega
    have n2 : (2 * (k : Int)).natAbs = 2 * k := by omega
    rw [n1, ea] at e1
    rw [n2, ec] at d1
    rw [if_neg (by omega), div_word e4 d4 (by rw [d1]; exact c0), e1, d1, e2, d2, decide_eq_false (by omega), decide_eq_false (by omega)]
    rfl
  rw [hx]
  generalize quoR a c = f at *
  have hr := rung_word false (r := f) (by omega)
  have hn := neg_word false (r := f) (by omega)
  have hfI : ¬ INF < f := by omega
  have hfO : f < ONE := by omega
  have hnan : nan (double.word false f) = false := by unfold nan; rw [hr]; exact decide_eq_false hfI
  have hiv : iv (double.word false f) = f := by unfold iv; rw [hn, hr]; rfl
  unfold shareI
  rw [if_neg (by rw [hnan, hiv]; rintro (h | h | h); omega; cases h; omega), if_neg (by rw [hiv]; omega), hr]
  have nk : ((k : Int)).natAbs = k := by omega
  rw [nk]
  obtain ⟨rk1, rk2⟩ := R_int k (by omega)
  have key : T (prodR f (R k 0)) = i := by
    obtain ⟨ri, hri, hriI⟩ := rep (G := i) (s := EX) (by omega) (by rw [EX_eq]; omega)
    obtain ⟨rq, hrq, hrqI⟩ := rep (G := 4 * i + 3) (s := EX - 2) (by omega) (by rw [EX_eq]; omega)
    have hpow2 := pow_sub_le 2 (by rw [EX_eq]; omega)
    have p1 : ri ≤ prodR f (R k 0) := by
      refine prodR_ge hriI ?_
      refine Nat.le_trans ?_ (Nat.mul_le_mul_right _ (V_le f1))
      rw [hri, hg, rk1]
      rw [mul_gk]
      refine Nat.mul_le_mul_right _ ?_
      rw [← hpow.out, p40, Nat.mul_comm (2 ^ (EX - 40)), ← Nat.mul_assoc]
      exact Nat.mul_le_mul_right _ gk1
    have p2 : prodR f (R k 0) ≤ rq := by
      refine prodR_le ?_
      refine Nat.le_trans (Nat.mul_le_mul_right _ (V_le f2)) ?_
      rw [hrq, hh, rk1]
      rw [mul_gk]
      refine Nat.mul_le_mul_right _ ?_
      have e2 : 2 ^ (EX - 2) = Q * 2 ^ (EX - 40) := by rw [← hQ, ← Nat.pow_add]; congr 1
      rw [e2, ← Nat.mul_assoc]
      exact Nat.mul_le_mul_right _ gk2
    have v1 := V_le p1
    have v2 := V_le p2
    rw [hri] at v1
    rw [hrq] at v2
    unfold T
    have hlt : V (prodR f (R k 0)) < (i + 1) * 2 ^ EX := by
      refine Nat.lt_of_le_of_lt v2 ?_
      rw [← hpow2]
      have e3 : (i + 1) * (2 ^ (EX - 2) * 2 ^ 2) = (4 * i + 4) * 2 ^ (EX - 2) := by
        have : (4 * i + 4) = (i + 1) * 2 ^ 2 := by
          have : (2 : Nat) ^ 2 = 4 := rfl
          rw [this]; omega
        rw [this, Nat.mul_comm (2 ^ (EX - 2)), ← Nat.mul_assoc]
      rw [e3]
      exact Nat.mul_lt_mul_of_pos_right (by omega) (two_pos _)
    generalize V (prodR f (R k 0)) = X at *
    rw [Nat.div_eq_iff (two_pos EX)]
    rw [Nat.add_mul, Nat.one_mul] at hlt
    constructor
    · exact v1
    · exact Nat.le_sub_one_of_lt (by omega)
  rw [key]
  omega
theorem share_one {k : Int} (hk : 1 ≤ k) : shareI ONE k = k - 1 := by
  unfold shareI
  rw [nan_one, iv_one, if_neg (by unfold ONE; rintro (h | h | h); omega; cases h; omega), if_pos (by omega)]
theorem share_zero {k : Int} (hk : 1 ≤ k) : shareI 0 k = 0 := by
  have hr : rung 0 = 0 := by decide
  unfold shareI
  rw [nan_zero, iv_zero, if_neg (by rintro (h | h | h); omega; cases h; omega), if_neg (by unfold ONE; omega), hr, prodR_zero, T_zero]
  omega
theorem share_none (x : Nat) : shareI x 0 = 0 := by unfold shareI; rw [if_pos (.inl (by omega))]
end Fl

end Go.Proofs.Ytfknaheijidhcaa

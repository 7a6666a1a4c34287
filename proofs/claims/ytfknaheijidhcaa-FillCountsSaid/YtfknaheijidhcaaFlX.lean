/- The difference of two floats that lie near each other; what the law of ratios asks. -/
import Derived.Test.YtfknaheijidhcaaFlW

namespace Go.Proofs.Ytfknaheijidhcaa

namespace Fl

open Ieee

theorem signed_not (s : Bool) (m k : Nat) : signed (!s) m k = -signed s m k := by unfold signed; cases s <;> simp
theorem sub_small {y z : Nat} (hy : rung y < INF) (hz : rung z < INF) (h : (sv y - sv z).natAbs ≤ 2 ^ EX) :
    ∃ d, floatBits .sub .f64 y z = some d ∧ d < 18446744073709551616 ∧ nan d = false ∧ -(ONE : Int) ≤ iv d ∧ iv d ≤ (ONE : Int) := by
  have hI : INF < SW := INF_lt_SW
  have hO : ONE < INF := by decide
  show ∃ d, double.sub y z = some d ∧ _
  unfold Format.sub
  rw [read_num hy, read_num hz]
  simp only [Datum.opposite, Datum.sum, Option.map_some, Format.write, nearest_R]
  have s1 := signed_scale (neg y) (mg (rung y)) (min (sh (rung y)) (sh (rung z))) (sh (rung y) - min (sh (rung y)) (sh (rung z)))
  have s2 := signed_scale (neg z) (mg (rung z)) (min (sh (rung y)) (sh (rung z))) (sh (rung z) - min (sh (rung y)) (sh (rung z)))
  rw [Nat.sub_add_cancel (Nat.min_le_left _ _), ← sv_signed] at s1
  rw [Nat.sub_add_cancel (Nat.min_le_right _ _), ← sv_signed] at s2
  generalize ha : sh (rung y) = a at *
  generalize hb : sh (rung z) = b at *
  have e1 : (-1074 + (a : Int) - min (-1074 + (a : Int)) (-1074 + (b : Int))).toNat = a - min a b := by omega
  have e2 : (-1074 + (b : Int) - min (-1074 + (a : Int)) (-1074 + (b : Int))).toNat = b - min a b := by omega
  rw [e1, e2, signed_not]
  generalize signed (neg y) (mg (rung y)) (a - min a b) = X at *
  generalize signed (neg z) (mg (rung z)) (b - min a b) = Y at *
  have hR : R (X + -Y).natAbs (min (-1074 + (a : Int)) (-1074 + (b : Int))) ≤ ONE := by
    refine R_le_of (K := 0) (e := min a b) (by omega) ?_
    have : V ONE * 2 ^ 0 = 2 ^ EX := by rw [V_one, Nat.pow_zero, Nat.mul_one]
    rw [this]
    refine Nat.le_trans (Nat.le_of_eq ?_) h
    rw [← s1, ← s2, ← Int.sub_mul, Int.natAbs_mul]
    rfl
  generalize R (X + -Y).natAbs (min (-1074 + (a : Int)) (-1074 + (b : Int))) = r at *
  refine ⟨_, rfl, word_lt _ (by omega), ?_, ?_⟩
  · unfold nan; rw [rung_word _ (by omega)]; exact decide_eq_false (by omega)
  · unfold iv; rw [rung_word _ (by omega)]
    split <;> omega

/-- All that the law asks of a ratio of two numbers, the divisor not nought. -/
theorem ratio_law (a b : Int) (ha : -2147483648 ≤ a ∧ a ≤ 2147483647) (hb : -2147483648 ≤ b ∧ b ≤ 2147483647) (h0 : b ≠ 0) :
    kindI (ratioF a b) = (if a = 0 then 3 else if (0 < a ↔ 0 < b) then 4 else 2) ∧ (a ≠ 0 → key (ratioF (-a) b) = key (ratioF a b ^^^ 2 ^ 63)) ∧
    ∃ y d, floatBits .mul .f64 (ratioF a b) (floatOfInt .f64 b) = some y ∧ floatBits .sub .f64 y (floatOfInt .f64 a) = some d ∧ nan d = false ∧ -(ONE : Int) ≤ iv d ∧ iv d ≤ (ONE : Int) := by
  have hI : INF < SW := INF_lt_SW
  obtain ⟨a1, a2, _, a4⟩ := ofInt_rung (n := a) (by omega) (by omega)
  obtain ⟨n1, n2, _, n4⟩ := ofInt_rung (n := -a) (by omega) (by omega)
  obtain ⟨b1, b2, _, b4⟩ := ofInt_rung (n := b) (by omega) (by omega)
  have hc : R b.natAbs 0 ≠ 0 := by
    obtain ⟨c, ec, _, _, c0, _⟩ := int_form (A := b.natAbs) (by omega) (by unfold B; omega)
    rw [ec]; exact c0
  have hx : ratioF a b = double.word (decide (a < 0) ^^ decide (b < 0)) (quoR (R a.natAbs 0) (R b.natAbs 0)) := by
    unfold ratioF
    rw [if_neg h0, div_word a4 b4 (by rw [b1]; exact hc), a1, b1, a2, b2]
    rfl
  have hnx : ratioF (-a) b = double.word (decide (-a < 0) ^^ decide (b < 0)) (quoR (R a.natAbs 0) (R b.natAbs 0)) := by
    unfold ratioF
    rw [if_neg h0, div_word n4 b4 (by rw [b1]; exact hc), n1, b1, n2, b2, Int.natAbs_neg]
    rfl
  -- the place of the ratio
  have hf : quoR (R a.natAbs 0) (R b.natAbs 0) < INF := by
    by_cases hz : a = 0
    · have : quoR (R a.natAbs 0) (R b.natAbs 0) = 0 := by
        have e : R a.natAbs 0 = 0 := by rw [hz]; rfl
        rw [e]
        have m0 : mg 0 = 0 := by decide
        unfold quoR quoMag
        rw [m0]
        simp [R]
      rw [this]; decide
    · exact (ratio_mag a.natAbs b.natAbs (by omega) (by omega) (by omega) (by omega)).2.1
  generalize hq : quoR (R a.natAbs 0) (R b.natAbs 0) = f at *
  have hrx : rung (ratioF a b) = f := by rw [hx]; exact rung_word _ (by omega)
  have hgx : neg (ratioF a b) = (decide (a < 0) ^^ decide (b < 0)) := by rw [hx]; exact neg_word _ (by omega)
  have hnan : nan (ratioF a b) = false := by unfold nan; rw [hrx]; exact decide_eq_false (by omega)
  refine ⟨?_, ?_, ?_⟩
  · have hk := kind_num hnan
    by_cases hz : a = 0
    · rw [if_pos hz]
      have f0 : f = 0 := by
        rw [← hq]
        have e : R a.natAbs 0 = 0 := by rw [hz]; rfl
        rw [e]
        have m0 : mg 0 = 0 := by decide
        unfold quoR quoMag
        rw [m0]
        simp [R]
      have hiv : iv (ratioF a b) = 0 := by unfold iv; rw [hrx, f0]; split <;> rfl
      have : (0 : Int) < (INF : Int) := by decide
      omega
    · rw [if_neg hz]
      have f1 := (ratio_mag a.natAbs b.natAbs (by omega) (by omega) (by omega) (by omega)).1
      rw [hq] at f1
      by_cases hs : 0 < a ↔ 0 < b
      · rw [if_pos hs]
        have : neg (ratioF a b) = false := by
          rw [hgx]
          by_cases h : 0 < a
          · have := hs.1 h
            rw [decide_eq_false (by omega), decide_eq_false (by omega)]; rfl
          · have : ¬ 0 < b := fun h' => h (hs.2 h')
            rw [decide_eq_true (by omega), decide_eq_true (by omega)]; rfl
        have hiv : iv (ratioF a b) = f := by unfold iv; rw [this, hrx]; rfl
        omega
      · rw [if_neg hs]
        have : neg (ratioF a b) = true := by
          rw [hgx]
          by_cases h : 0 < a
          · have : ¬ 0 < b := fun h' => hs ⟨fun _ => h', fun _ => h⟩
            rw [decide_eq_false (by omega), decide_eq_true (by omega)]; rfl
          · have : 0 < b := by
              rcases Int.lt_or_le 0 b with h' | h'
              · exact h'
              · exact absurd ⟨fun x => absurd x h, fun x => by omega⟩ hs
            rw [decide_eq_true (by omega), decide_eq_false (by omega)]; rfl
        have hiv : iv (ratioF a b) = -(f : Int) := by unfold iv; rw [this, hrx]; rfl
        omega
  · intro hz
    have e1 : rung (ratioF (-a) b) = f := by rw [hnx]; exact rung_word _ (by omega)
    have e2 : neg (ratioF (-a) b) = (decide (-a < 0) ^^ decide (b < 0)) := by rw [hnx]; exact neg_word _ (by omega)
    have e3 : neg (ratioF (-a) b) = neg (ratioF a b ^^^ 2 ^ 63) := by
      rw [e2, flip_neg, hgx]
      by_cases h : a < 0
      · rw [decide_eq_true h, decide_eq_false (show ¬ -a < 0 by omega)]; cases decide (b < 0) <;> rfl
      · rw [decide_eq_false h, decide_eq_true (show -a < 0 by omega)]; cases decide (b < 0) <;> rfl
    unfold key nan
    rw [e3, flip_rung, e1, hrx]
  · have hm : double.mul (ratioF a b) (floatOfInt .f64 b) = some (double.word (decide (a < 0)) (prodR f (R b.natAbs 0))) := by
      rw [mul_word (by omega) b4, hrx, hgx, b1, b2]
      cases decide (a < 0) <;> cases decide (b < 0) <;> rfl
    obtain ⟨va, _⟩ := R_int a.natAbs (by unfold B; omega)
    have hP : prodR f (R b.natAbs 0) < INF ∧ ((V (prodR f (R b.natAbs 0)) : Int) - (V (R a.natAbs 0) : Int)).natAbs ≤ 2 ^ EX := by
      by_cases hz : a = 0
      · have f0 : f = 0 := by
          rw [← hq]
          have e : R a.natAbs 0 = 0 := by rw [hz]; rfl
          rw [e]
          have m0 : mg 0 = 0 := by decide
          unfold quoR quoMag
          rw [m0]
          simp [R]
        rw [f0, prodR_zero, hz]
        have : R (0 : Int).natAbs 0 = 0 := rfl
        rw [this, V_zero]
        exact ⟨by decide, Nat.zero_le _⟩
      · obtain ⟨_, _, p1, p2⟩ := ratio_mag a.natAbs b.natAbs (by omega) (by omega) (by omega) (by omega)
        rw [hq] at p1 p2
        have hpow := pow_sub_le 2 (by rw [EX_eq]; omega)
        have p4 : (2 : Nat) ^ 2 = 4 := rfl
        rw [p4] at hpow
        constructor
        · obtain ⟨u, hu, huI⟩ := rep (G := 2 * B - 1) (s := EX) (by have := B_pos; omega) (by rw [EX_eq]; omega)
          apply V_eq_lt
          refine Nat.lt_of_le_of_lt p2 ?_
          have hIV : V INF = B * 2 ^ 2046 := by decide +kernel
          have h1 : (4 * a.natAbs + 1) * 2 ^ (EX - 2) ≤ (2 * B - 1) * 2 ^ EX := Nat.mul_le_mul (by unfold B; omega) (Nat.pow_le_pow_right (by omega) (by omega))
          refine Nat.lt_of_le_of_lt h1 ?_
          rw [hIV]; decide +kernel
        · rw [va]
          have e1 : (4 * a.natAbs - 1) * 2 ^ (EX - 2) + 2 ^ (EX - 2) = a.natAbs * 2 ^ EX := by
            have : 4 * a.natAbs = (4 * a.natAbs - 1) + 1 := by omega
            rw [← hpow, Nat.mul_comm (2 ^ (EX - 2)) 4, ← Nat.mul_assoc, Nat.mul_comm a.natAbs 4]
            conv => rhs; rw [this, Nat.add_mul, Nat.one_mul]
          have e2 : (4 * a.natAbs + 1) * 2 ^ (EX - 2) = a.natAbs * 2 ^ EX + 2 ^ (EX - 2) := by
            rw [Nat.add_mul, Nat.one_mul, ← hpow, Nat.mul_comm (2 ^ (EX - 2)) 4, ← Nat.mul_assoc, Nat.mul_comm a.natAbs 4]
          rw [e2] at p2
          refine Nat.le_trans ?_ (Nat.pow_le_pow_right (by omega) (show EX - 2 ≤ EX by omega))
          clear hpow
          generalize (4 * a.natAbs - 1) * 2 ^ (EX - 2) = U at *
          generalize a.natAbs * 2 ^ EX = X at *
          generalize 2 ^ (EX - 2) = Y at *
          generalize V (prodR f (R b.natAbs 0)) = Z at *
          omega
    have hry : rung (double.word (decide (a < 0)) (prodR f (R b.natAbs 0))) = prodR f (R b.natAbs 0) := rung_word _ (by omega)
    have hsv : (sv (double.word (decide (a < 0)) (prodR f (R b.natAbs 0))) - sv (floatOfInt .f64 a)).natAbs ≤ 2 ^ EX := by
      unfold sv
      rw [hry, neg_word _ (by omega), a1, a2]
      have h2 := hP.2
      split
      · generalize (V (prodR f (R b.natAbs 0)) : Int) = Z at *
        generalize (V (R a.natAbs 0) : Int) = X at *
        have : -Z - -X = -(Z - X) := by omega
        rw [this, Int.natAbs_neg]; exact h2
      · exact h2
    obtain ⟨d, d1, d2, d3, d4, d5⟩ := sub_small (by rw [hry]; exact hP.1) a4 hsv
    exact ⟨_, d, hm, d1, d3, d4, d5⟩
end Fl

end Go.Proofs.Ytfknaheijidhcaa

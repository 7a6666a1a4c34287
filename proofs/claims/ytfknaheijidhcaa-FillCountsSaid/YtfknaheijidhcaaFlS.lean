/- The operations on floats as whole numbers: product, quotient, difference, the float of an integer, the integer of a float. -/
import Derived.Test.YtfknaheijidhcaaFlR

namespace Go.Proofs.Ytfknaheijidhcaa

namespace Fl

open Ieee

def EX : Nat := 1074
theorem EX_eq : EX = 1074 := rfl

/-- Rounding. -/
def R (m : Nat) (p : Int) : Nat := if m = 0 then 0 else min (pre m p) INF
theorem R_le (m : Nat) (p : Int) : R m p ≤ INF := by unfold R; split; exact Nat.zero_le _; exact Nat.min_le_right _ _
theorem nearest_R (s : Bool) (m : Nat) (p : Int) : double.nearest s m p = double.word s (R m p) := by
  rw [nearest_eq]; unfold R; split <;> rfl
theorem word_eq (s : Bool) (r : Nat) : double.word s r = if s then SW + r else r := by unfold Format.word; rw [sw_eq]
theorem rung_word (s : Bool) {r : Nat} (h : r < SW) : rung (double.word s r) = r := by
  rw [word_eq]; unfold rung
  cases s
  · simp [Nat.mod_eq_of_lt h]
  · simp [Nat.mod_eq_of_lt h]
theorem neg_word (s : Bool) {r : Nat} (h : r < SW) : neg (double.word s r) = s := by
  rw [word_eq]; unfold neg
  cases s
  · simp [Nat.div_eq_of_lt h]
  · have : (SW + r) / SW = 1 := by rw [Nat.div_eq_iff (by decide)]; omega
    simp [this]
theorem word_lt (s : Bool) {r : Nat} (h : r ≤ INF) : double.word s r < 18446744073709551616 := by
  rw [word_eq]
  have : SW = 9223372036854775808 := rfl
  have : INF = 9218868437227405312 := rfl
  split <;> omega
theorem Rnd.val {v K r : Nat} (h : Rnd (V r * 2 ^ K) K v) : v = r := Nat.le_antisymm (h.mono (Rnd.exact r K) (Nat.le_refl _)) ((Rnd.exact r K).mono h (Nat.le_refl _))

section

variable {m m' e e' K r : Nat} {p p' : Int}

theorem R_mono (he : (e : Int) = p + 1074 + K) (he' : (e' : Int) = p' + 1074 + K) (h : m * 2 ^ e ≤ m' * 2 ^ e') : R m p ≤ R m' p' := by
  unfold R
  split
  · exact Nat.zero_le _
  · rename_i h0
    have h1 : m' ≠ 0 := by
      rintro rfl
      rw [Nat.zero_mul] at h
      exact Nat.lt_irrefl 0 (Nat.lt_of_lt_of_le (Nat.mul_pos (Nat.pos_of_ne_zero h0) (two_pos e)) h)
    rw [if_neg h1]
    have := (pre_rnd h0 he).mono (pre_rnd h1 he') h
    exact Nat.le_min.2 ⟨Nat.le_trans (Nat.min_le_left _ _) this, Nat.min_le_right _ _⟩
theorem R_ge (he : (e : Int) = p + 1074 + K) (hr : r ≤ INF) (h : V r * 2 ^ K ≤ m * 2 ^ e) : r ≤ R m p := by
  unfold R
  split
  · rename_i h0
    subst h0
    rcases Nat.eq_zero_or_pos r with h1 | h1
    · exact Nat.le_of_eq h1
    · rw [Nat.zero_mul] at h
      have := V_lt h1
      rw [V_zero] at this
      exact absurd h (Nat.not_le_of_lt (Nat.mul_pos this (two_pos K)))
  · rename_i h0
    exact Nat.le_min.2 ⟨(Rnd.exact r K).mono (pre_rnd h0 he) h, hr⟩
theorem R_le_of (he : (e : Int) = p + 1074 + K) (h : m * 2 ^ e ≤ V r * 2 ^ K) : R m p ≤ r := by
  unfold R
  split
  · exact Nat.zero_le _
  · rename_i h0
    exact Nat.le_trans (Nat.min_le_left _ _) ((pre_rnd h0 he).mono (Rnd.exact r K) h)
theorem R_val (he : (e : Int) = p + 1074 + K) (hr : r ≤ INF) (h : m * 2 ^ e = V r * 2 ^ K) : R m p = r :=
  Nat.le_antisymm (R_le_of he (Nat.le_of_eq h)) (R_ge he hr (Nat.le_of_eq h.symm))
end

/-- Numbers of few digits are floats. -/
theorem rep {G : Nat} {s : Nat} (hG : G < 2 * B) (hs : s ≤ 2045) : ∃ r, V r = G * 2 ^ s ∧ r ≤ INF := by
  rcases Nat.eq_zero_or_pos G with rfl | h0
  · exact ⟨0, by rw [V_zero]; simp, Nat.zero_le _⟩
  · obtain ⟨l1, l2⟩ := log_bd (m := G) (by omega)
    have hL : G.log2 ≤ 52 := by
      rcases Nat.lt_or_ge 52 G.log2 with h | h
      · have := Nat.pow_le_pow_right (n := 2) (by omega) (show 53 ≤ G.log2 from h)
        have e : 2 * B = 2 ^ 53 := by decide
        omega
      · exact h
    generalize G.log2 = L at *
    have hI : INF = 2047 * B := B_dvd
    by_cases hk : 52 - L ≤ s
    · have e1 : 2 ^ (L + 1) * 2 ^ (52 - L) = 2 * B := by rw [← Nat.pow_add]; have : L + 1 + (52 - L) = 53 := by omega
                                                         rw [this]; decide
      have e2 : 2 ^ L * 2 ^ (52 - L) = B := by rw [← Nat.pow_add]; have : L + (52 - L) = 52 := by omega
                                               rw [this]; decide
      have u1 := Nat.mul_lt_mul_of_pos_right l2 (two_pos (52 - L))
      have u2 := Nat.mul_le_mul_right (2 ^ (52 - L)) l1
      rw [e1] at u1
      rw [e2] at u2
      refine ⟨(s - (52 - L)) * B + G * 2 ^ (52 - L), ?_, ?_⟩
      · rw [(V_at u1 (.inr u2)).1, Nat.mul_assoc, ← Nat.pow_add]; congr 2; omega
      · have : (s - (52 - L)) * B ≤ 2045 * B := Nat.mul_le_mul_right _ (by omega)
        omega
    · have u1 : G * 2 ^ s < 2 * B := by
        have h1 := Nat.mul_lt_mul_of_pos_right l2 (two_pos s)
        rw [← Nat.pow_add] at h1
        have h2 : 2 ^ (L + 1 + s) ≤ 2 ^ 53 := Nat.pow_le_pow_right (by omega) (by omega)
        have e : 2 * B = 2 ^ 53 := by decide
        omega
      refine ⟨G * 2 ^ s, ?_, ?_⟩
      · have := (V_at (s := 0) u1 (.inl rfl)).1
        rw [Nat.zero_mul, Nat.zero_add] at this
        rw [this]; simp
      · have : 2 * B ≤ INF := by decide
        omega

theorem V_shift (r c : Nat) : mg r * 2 ^ (sh r + c) = V r * 2 ^ c := by unfold V; rw [Nat.pow_add, Nat.mul_assoc]
/-- The product. -/
theorem mul_eq {x y : Nat} (hx : rung x < INF) (hy : rung y < INF) : ∃ P, double.mul x y = some (double.word (neg x ^^ neg y) P) ∧ P ≤ INF ∧
    (∀ r, r ≤ INF → V r * 2 ^ EX ≤ V (rung x) * V (rung y) → r ≤ P) ∧ (∀ r, V (rung x) * V (rung y) ≤ V r * 2 ^ EX → P ≤ r) := by
  unfold Format.mul
  rw [read_num hx, read_num hy]
  refine ⟨R (mg (rung x) * mg (rung y)) (-1074 + (sh (rung x) : Int) + (-1074 + (sh (rung y) : Int))), ?_, R_le _ _, ?_, ?_⟩
  · simp only [Datum.product, Option.map_some, Format.write, nearest_R]
  all_goals
    have e1 : V (rung x) * V (rung y) = mg (rung x) * mg (rung y) * 2 ^ (sh (rung x) + sh (rung y)) := by
      unfold V; rw [Nat.pow_add]; simp only [Nat.mul_assoc, Nat.mul_left_comm]
    intro r
    rw [e1]
  · exact fun hr h => R_ge (K := EX) (by rw [EX_eq]; omega) hr h
  · exact fun h => R_le_of (K := EX) (by rw [EX_eq]; omega) h
/-- The float of an integer. -/
theorem ofInt_eq (n : Int) : floatOfInt .f64 n = double.word (decide (n < 0)) (R n.natAbs 0) := by
  unfold floatOfInt FloatKind.nearest FloatKind.encode
  show double.nearest _ _ _ = _
  rw [nearest_R]
theorem R_int (n : Nat) (h : n < 2 * B) : V (R n 0) = n * 2 ^ EX ∧ R n 0 < INF := by
  obtain ⟨r, h1, h2⟩ := rep (s := EX) h (by rw [EX_eq]; omega)
  have e := R_val (m := n) (p := 0) (K := 0) (e := EX) (r := r) (by rw [EX_eq]; omega) h2 (by rw [h1, Nat.pow_zero, Nat.mul_one])
  rw [e]
  refine ⟨h1, ?_⟩
  rcases Nat.lt_or_eq_of_le h2 with h3 | h3
  · exact h3
  · have hI : V INF = B * 2 ^ 2046 := by decide +kernel
    rw [h3, hI] at h1
    have : n * 2 ^ EX < 2 * B * 2 ^ EX := Nat.mul_lt_mul_of_pos_right h (two_pos EX)
    rw [← h1] at this
    have h4 : B * 2 ^ 2046 = B * 2 ^ 972 * 2 ^ EX := by decide +kernel
    rw [h4, Nat.mul_lt_mul_right (two_pos EX)] at this
    have h5 : 2 * B ≤ B * 2 ^ 972 := by decide +kernel
    omega
theorem pow_split (m : Nat) {c s : Nat} (h : c ≤ s) : m * 2 ^ s = m * 2 ^ (s - c) * 2 ^ c := by rw [Nat.mul_assoc, ← Nat.pow_add, Nat.sub_add_cancel h]
/-- Cut towards zero. -/
def T (r : Nat) : Nat := V r / 2 ^ EX
theorem T_le {a b : Nat} (h : a ≤ b) : T a ≤ T b := Nat.div_le_div_right (V_le h)
theorem toInt_eq {x : Nat} (hx : rung x < INF) : (FloatKind.f64.decode x).toInt .zero = some (if neg x then -(T (rung x) : Int) else (T (rung x) : Int)) := by
  show (double.read x).toInt .zero = _
  rw [read_num hx]
  generalize rung x = r
  unfold Datum.toInt
  simp only [Datum.integral, Option.some.injEq]
  have key : Toward.zero.cut (neg x) (mg r <<< (-1074 + (sh r : Int)).toNat) (-(-1074 + (sh r : Int))).toNat = T r := by
    unfold Toward.cut T V
    simp only [Bool.toNat_false, Nat.add_zero]
    rw [shl_one, Nat.shiftLeft_eq]
    generalize mg r = m
    generalize sh r = s
    have hE := EX_eq
    by_cases h : EX ≤ s
    · have u1 : (-1074 + (s : Int)).toNat = s - EX := by omega
      have u2 : (-(-1074 + (s : Int))).toNat = 0 := by omega
      rw [u1, u2, Nat.zero_min, Nat.pow_zero, Nat.div_one]
      rw [pow_split m h, Nat.mul_div_cancel _ (two_pos _)]
    · have u1 : (-1074 + (s : Int)).toNat = 0 := by omega
      have u2 : (-(-1074 + (s : Int))).toNat = EX - s := by omega
      rw [u1, u2, Nat.pow_zero, Nat.mul_one]
      have e : m * 2 ^ s / 2 ^ EX = m / 2 ^ (EX - s) := by
        have : (2 : Nat) ^ EX = 2 ^ (EX - s) * 2 ^ s := by rw [← Nat.pow_add, Nat.sub_add_cancel (by omega)]
        rw [this, Nat.mul_div_mul_right _ _ (two_pos _)]
      rw [e]
      by_cases hd : EX - s ≤ m.log2 + 2
      · rw [Nat.min_eq_left hd]
      · rw [Nat.min_eq_right (by omega)]
        have l2 : m < 2 ^ (m.log2 + 1) := Nat.lt_log2_self
        have h1 : 2 ^ (m.log2 + 1) ≤ 2 ^ (m.log2 + 2) := Nat.pow_le_pow_right (by omega) (by omega)
        have h2 : 2 ^ (m.log2 + 1) ≤ 2 ^ (EX - s) := Nat.pow_le_pow_right (by omega) (by omega)
        rw [Nat.div_eq_of_lt (by omega), Nat.div_eq_of_lt (by omega)]
  rw [key]
  unfold signed
  rw [Nat.shiftLeft_zero]

/-- The place of one. -/
def ONE : Nat := 4607182418800017408
theorem V_one : V ONE = 2 ^ EX := by decide +kernel
theorem V_one1 : V (ONE - 1) = (2 * B - 1) * 2 ^ 1021 := by decide +kernel
def TOP : Nat := 4890909195324358655
theorem V_top : V TOP = (2 * B - 1) * 2 ^ 1084 := by decide +kernel
theorem TOP_lt : TOP < INF := by decide
theorem V_top1 : V (TOP + 1) = 2 ^ 63 * 2 ^ EX := by decide +kernel
theorem T_top : (T TOP : Int) ≤ 9223372036854775807 := by decide +kernel
/-- A share of at most 2^63 places lies below 2^63. -/
theorem share_top {rx : Nat} (hx : rx < ONE) {n : Nat} (hn : n ≤ 9223372036854775807) : V rx * V (R n 0) ≤ V TOP * 2 ^ EX := by
  have h1 : V rx ≤ (2 * B - 1) * 2 ^ 1021 := by rw [← V_one1]; exact V_le (by unfold ONE at *; omega)
  have h63 : n ≤ 2 ^ 63 := by
    have : (2 : Nat) ^ 63 = 9223372036854775808 := by decide
    omega
  have h2 : R n 0 ≤ TOP + 1 := by
    refine R_le_of (K := 0) (e := EX) (by rw [EX_eq]; omega) ?_
    rw [V_top1, Nat.pow_zero, Nat.mul_one]
    exact Nat.mul_le_mul_right _ h63
  have h3 : V (R n 0) ≤ 2 ^ 63 * 2 ^ EX := by rw [← V_top1]; exact V_le h2
  have h4 := Nat.mul_le_mul h1 h3
  rw [V_top]
  have e : (2 * B - 1) * 2 ^ 1021 * (2 ^ 63 * 2 ^ EX) = (2 * B - 1) * 2 ^ 1084 * 2 ^ EX := by decide +kernel
  rw [e] at h4
  exact h4
end Fl

end Go.Proofs.Ytfknaheijidhcaa

/- Rounding to the nearest float: it is the nearest place, so it rises with the number, and leaves what is a float as it is. -/
import Derived.Test.YtfknaheijidhcaaFl

namespace Go.Proofs.Ytfknaheijidhcaa

namespace Fl

open Ieee

theorem two_pos (n : Nat) : 0 < 2 ^ n := Nat.two_pow_pos n
theorem V_next (r : Nat) : V (r + 1) = V r + 2 ^ sh r := by
  have hB := B_pos
  unfold V mg sh
  by_cases h : r + 1 < B
  · have h' : r < B := by omega
    simp [h, h']
  · rw [if_neg h, if_neg h]
    by_cases h1 : r < B
    · have e : r + 1 = B := by omega
      rw [if_pos h1, if_pos h1, e, Nat.mod_self, Nat.div_self hB]; simp; omega
    · rw [if_neg h1, if_neg h1]
      have hd := Nat.div_add_mod r B
      have hm := Nat.mod_lt r hB
      have hq : 1 ≤ r / B := by rw [Nat.le_div_iff_mul_le hB]; omega
      by_cases h2 : r % B + 1 < B
      · have e1 : (r + 1) / B = r / B := by
          rw [Nat.div_eq_iff hB]
          rw [Nat.mul_comm] at hd
          have := Nat.add_mul (r / B) 1 B
          omega
        have e2 : (r + 1) % B = r % B + 1 := by
          have := Nat.div_add_mod (r + 1) B
          rw [e1] at this
          omega
        rw [e1, e2, ← Nat.add_assoc, Nat.add_mul, Nat.one_mul]
      · have e0 : r % B = B - 1 := by omega
        have e1 : (r + 1) / B = r / B + 1 := by
          rw [Nat.div_eq_iff hB]
          rw [Nat.mul_comm] at hd
          have := Nat.add_mul (r / B) 1 B
          have := Nat.add_mul (r / B + 1) 1 B
          omega
        have e2 : (r + 1) % B = 0 := by
          have := Nat.div_add_mod (r + 1) B
          rw [e1, Nat.mul_add] at this
          omega
        rw [e0, e1, e2]
        have e3 : r / B + 1 - 1 = (r / B - 1) + 1 := by omega
        rw [e3, Nat.pow_succ, Nat.add_zero]
        generalize 2 ^ (r / B - 1) = t
        have e4 : B + (B - 1) + 1 = B * 2 := by omega
        rw [← Nat.succ_mul, Nat.succ_eq_add_one, e4, Nat.mul_assoc, Nat.mul_comm t 2]

/-- r is the place nearest to v, counted in the least times 2^-K; between two the even one. -/
def Rnd (v K r : Nat) : Prop := ∃ r0, V r0 * 2 ^ K ≤ v ∧ v < V (r0 + 1) * 2 ^ K ∧
  (2 * v < (V r0 + V (r0 + 1)) * 2 ^ K → r = r0) ∧ ((V r0 + V (r0 + 1)) * 2 ^ K < 2 * v → r = r0 + 1) ∧ (2 * v = (V r0 + V (r0 + 1)) * 2 ^ K → r = if r0 % 2 = 0 then r0 else r0 + 1)
theorem Rnd.mono {v v' K r r' : Nat} (h : Rnd v K r) (h' : Rnd v' K r') (hv : v ≤ v') : r ≤ r' := by
  obtain ⟨a, a1, a2, a3, a4, a5⟩ := h
  obtain ⟨b, b1, b2, b3, b4, b5⟩ := h'
  have ra : r = a ∨ r = a + 1 := by
    rcases Nat.lt_trichotomy (2 * v) ((V a + V (a + 1)) * 2 ^ K) with h | h | h
    · exact .inl (a3 h)
    · have := a5 h; split at this <;> omega
    · exact .inr (a4 h)
  have rb : r' = b ∨ r' = b + 1 := by
    rcases Nat.lt_trichotomy (2 * v') ((V b + V (b + 1)) * 2 ^ K) with h | h | h
    · exact .inl (b3 h)
    · have := b5 h; split at this <;> omega
    · exact .inr (b4 h)
  have hab : a ≤ b := by
    rcases Nat.lt_or_ge b a with h | h
    · have h1 : V (b + 1) ≤ V a := V_le h
      have h2 := Nat.mul_le_mul_right (2 ^ K) h1
      omega
    · exact h
  rcases Nat.lt_or_eq_of_le hab with h | rfl
  · omega
  · rcases Nat.lt_trichotomy (2 * v) ((V a + V (a + 1)) * 2 ^ K) with h | h | h
    · have := a3 h; omega
    · rcases Nat.lt_or_eq_of_le hv with hv | rfl
      · have := b4 (by omega); omega
      · have := a5 h; have := b5 h; split at this <;> split at * <;> omega
    · have := a4 h; have := b4 (by omega); omega
theorem Rnd.exact (r K : Nat) : Rnd (V r * 2 ^ K) K r := by
  have h1 := V_succ r
  have h2 := Nat.mul_lt_mul_of_pos_right h1 (two_pos K)
  refine ⟨r, Nat.le_refl _, h2, fun _ => rfl, fun h => ?_, fun h => ?_⟩
  · rw [Nat.add_mul] at h; omega
  · rw [Nat.add_mul] at h; omega
/-- One step of the cutting. -/
theorem rnd_step {m low rest d e s K r0 r : Nat} (hm : m = low * 2 ^ d + rest) (hr : rest < 2 ^ d) (he : e + d = s + K) (h0 : V r0 = low * 2 ^ s) (h1 : V (r0 + 1) = (low + 1) * 2 ^ s) (hp : r0 % 2 = low % 2)
    (hrr : r = r0 + (2 ^ d < 2 * rest || (2 ^ d == 2 * rest && low % 2 == 1) : Bool).toNat) : Rnd (m * 2 ^ e) K r := by
  have e0 : V r0 * 2 ^ K = low * 2 ^ d * 2 ^ e := by rw [h0, Nat.mul_assoc, ← Nat.pow_add, ← he, Nat.pow_add, Nat.mul_comm (2 ^ e), ← Nat.mul_assoc]
  have e1 : V (r0 + 1) * 2 ^ K = (low + 1) * 2 ^ d * 2 ^ e := by rw [h1, Nat.mul_assoc, ← Nat.pow_add, ← he, Nat.pow_add, Nat.mul_comm (2 ^ e), ← Nat.mul_assoc]
  have e2 : (V r0 + V (r0 + 1)) * 2 ^ K = (2 * (low * 2 ^ d) + 2 ^ d) * 2 ^ e := by
    rw [Nat.add_mul, e0, e1, ← Nat.add_mul]; congr 1; rw [Nat.add_mul, Nat.one_mul]; omega
  have e3 : 2 * (m * 2 ^ e) = (2 * (low * 2 ^ d) + 2 * rest) * 2 ^ e := by rw [hm, ← Nat.mul_assoc]; congr 1; omega
  have pe := two_pos e
  have lt_iff : ∀ {a b : Nat}, a * 2 ^ e < b * 2 ^ e ↔ a < b := fun {a b} => Nat.mul_lt_mul_right pe
  refine ⟨r0, ?_, ?_, ?_, ?_, ?_⟩
  · rw [e0, hm]; exact Nat.mul_le_mul_right _ (by omega)
  · rw [e1, hm, lt_iff, Nat.add_mul]; omega
  · rw [e2, e3, lt_iff]
    intro h
    rw [hrr]
    have a1 : ¬ 2 ^ d < 2 * rest := by omega
    have a2 : (2 ^ d == 2 * rest) = false := by rw [beq_eq_false_iff_ne]; omega
    simp [a1, a2]
  · rw [e2, e3, lt_iff]
    intro h
    rw [hrr]
    have a1 : 2 ^ d < 2 * rest := by omega
    simp [a1]
  · rw [e2, e3]
    intro h
    have h := Nat.eq_of_mul_eq_mul_right pe h
    have a1 : 2 ^ d = 2 * rest := by omega
    rw [hrr]
    have a2 : ¬ 2 ^ d < 2 * rest := by omega
    have a3 : (2 ^ d == 2 * rest) = true := by rw [beq_iff_eq]; exact a1
    rw [a3]
    simp only [a2, decide_false, Bool.false_or, Bool.true_and]
    by_cases hl : low % 2 = 1
    · rw [hl, if_neg (by omega)]; rfl
    · have : low % 2 = 0 := by omega
      rw [this, if_pos (by omega)]; rfl

/-- Rounding, before a number that is too great becomes infinite. -/
def pre (m : Nat) (p : Int) : Nat :=
  let last := max (p + m.log2 - 52) (-1074)
  (last + 1074).toNat * B + Toward.even.cut false (m <<< (p - last).toNat) (last - p).toNat
theorem cut_even (neg : Bool) (n d : Nat) : Toward.even.cut neg n d = Toward.even.cut false n d := rfl
theorem nearest_eq (neg : Bool) (m : Nat) (p : Int) : double.nearest neg m p = if m = 0 then double.word neg 0 else double.word neg (min (pre m p) INF) := by
  unfold Format.nearest pre
  rw [least_eq, binade_eq, inf_eq]
  have e : double.fractionBits = 52 := rfl
  rw [e]
  rfl
theorem log_bd {m : Nat} (hm : m ≠ 0) : 2 ^ m.log2 ≤ m ∧ m < 2 ^ (m.log2 + 1) := ⟨Nat.log2_self_le hm, Nat.lt_log2_self⟩
theorem B_eq : B = 2 ^ 52 := by decide
theorem B_even (s n : Nat) : (s * B + n) % 2 = n % 2 := by
  have : B = 2 * 2251799813685248 := by decide
  rw [this, ← Nat.mul_assoc, Nat.mul_comm s 2, Nat.mul_assoc]
  omega
/-- The number at a place that is told by its binade. -/
theorem V_at {s n : Nat} (h1 : n < 2 * B) (h2 : s = 0 ∨ B ≤ n) : V (s * B + n) = n * 2 ^ s ∧ V (s * B + n + 1) = (n + 1) * 2 ^ s := by
  have hB := B_pos
  have key : sh (s * B + n) = s ∧ mg (s * B + n) = n := by
    unfold sh mg
    by_cases h : n < B
    · have hs : s = 0 := by omega
      subst hs
      rw [Nat.zero_mul, Nat.zero_add, if_pos h, if_pos h]
      exact ⟨rfl, rfl⟩
    · have e : s * B + n = (s + 1) * B + (n - B) := by rw [Nat.add_mul, Nat.one_mul]; omega
      have h3 : ¬ s * B + n < B := by omega
      rw [if_neg h3, if_neg h3, e, Nat.mul_comm (s + 1) B]
      rw [Nat.mul_add_div hB, Nat.mul_add_mod, Nat.div_eq_of_lt (by omega), Nat.mod_eq_of_lt (by omega)]
      omega
  have h0 : V (s * B + n) = n * 2 ^ s := by unfold V; rw [key.1, key.2]
  refine ⟨h0, ?_⟩
  rw [V_next, h0, key.1, Nat.add_mul, Nat.one_mul]
theorem shl_one (d : Nat) : 1 <<< d = 2 ^ d := by rw [Nat.shiftLeft_eq, Nat.one_mul]

theorem pre_rnd {m : Nat} (hm : m ≠ 0) {p : Int} {K e : Nat} (he : (e : Int) = p + 1074 + K) : Rnd (m * 2 ^ e) K (pre m p) := by
  obtain ⟨l1, l2⟩ := log_bd hm
  unfold pre
  generalize hL : m.log2 = L at *
  dsimp only
  by_cases hn : -1074 ≤ p + L - 52
  · have hlast : max (p + (L : Int) - 52) (-1074) = p + L - 52 := by omega
    rw [hlast]
    obtain ⟨s, hs⟩ := Int.eq_ofNat_of_zero_le (show 0 ≤ p + L - 52 + 1074 by omega)
    have hs' : (p + (L : Int) - 52 + 1074).toNat = s := by omega
    rw [hs']
    by_cases h52 : 52 ≤ L
    · obtain ⟨d, hd⟩ : ∃ d, L = 52 + d := ⟨L - 52, by omega⟩
      have u1 : (p - (p + (L : Int) - 52)).toNat = 0 := by omega
      have u2 : (p + (L : Int) - 52 - p).toNat = d := by omega
      rw [u1, u2]
      unfold Toward.cut
      simp only [Nat.shiftLeft_zero, hL]
      rw [Nat.min_eq_left (by omega), shl_one]
      have hpd := two_pos d
      have hlow : m / 2 ^ d < 2 * B := by
        rw [Nat.div_lt_iff_lt_mul hpd, B_eq]
        have : 2 * 2 ^ 52 * 2 ^ d = 2 ^ (L + 1) := by rw [hd, ← Nat.pow_succ', ← Nat.pow_add]; congr 1; omega
        omega
      have hlow2 : B ≤ m / 2 ^ d := by
        rw [Nat.le_div_iff_mul_le hpd, B_eq, ← Nat.pow_add, ← hd]; exact l1
      obtain ⟨v0, v1⟩ := V_at (s := s) hlow (.inr hlow2)
      refine rnd_step (d := d) (s := s) (r0 := s * B + m / 2 ^ d) (low := m / 2 ^ d) (rest := m % 2 ^ d) ?_ (Nat.mod_lt _ hpd) (by omega) v0 v1 (B_even _ _) ?_
      · rw [Nat.mul_comm]; exact (Nat.div_add_mod _ _).symm
      · rw [Nat.add_assoc]
    · obtain ⟨k, hk⟩ : ∃ k, 52 = L + k := ⟨52 - L, by omega⟩
      have u1 : (p - (p + (L : Int) - 52)).toNat = k := by omega
      have u2 : (p + (L : Int) - 52 - p).toNat = 0 := by omega
      rw [u1, u2]
      unfold Toward.cut
      simp only [Nat.zero_min, Nat.shiftLeft_zero, Nat.div_one, Nat.mod_one]
      rw [Nat.shiftLeft_eq]
      have hlow : m * 2 ^ k < 2 * B := by
        have := Nat.mul_lt_mul_of_pos_right l2 (two_pos k)
        rw [← Nat.pow_add] at this
        have e1 : L + 1 + k = 53 := by omega
        rw [e1] at this
        have : (2 : Nat) ^ 53 = 2 * B := by decide
        omega
      have hlow2 : B ≤ m * 2 ^ k := by
        have := Nat.mul_le_mul_right (2 ^ k) l1
        rw [← Nat.pow_add, ← hk] at this
        rw [B_eq]; exact this
      obtain ⟨v0, _⟩ := V_at (s := s) hlow (.inr hlow2)
      have hv : m * 2 ^ e = V (s * B + m * 2 ^ k) * 2 ^ K := by
        rw [v0, Nat.mul_assoc, Nat.mul_assoc, ← Nat.pow_add, ← Nat.pow_add]
        congr 2; omega
      rw [hv]
      have : (s * B + (m * 2 ^ k + (decide (1 < 2 * 0) || (1 == 2 * 0 && m * 2 ^ k % 2 == 1)).toNat)) = s * B + m * 2 ^ k := by simp
      rw [this]
      exact Rnd.exact _ _
  · have hlast : max (p + (L : Int) - 52) (-1074) = -1074 := by omega
    rw [hlast]
    have hs' : (-1074 + 1074 : Int).toNat = 0 := rfl
    rw [hs', Nat.zero_mul, Nat.zero_add]
    by_cases hp : -1074 ≤ p
    · obtain ⟨k, hk⟩ := Int.eq_ofNat_of_zero_le (show 0 ≤ p + 1074 by omega)
      have u1 : (p - (-1074)).toNat = k := by omega
      have u2 : (-1074 - p).toNat = 0 := by omega
      rw [u1, u2]
      unfold Toward.cut
      simp only [Nat.zero_min, Nat.shiftLeft_zero, Nat.div_one, Nat.mod_one]
      rw [Nat.shiftLeft_eq]
      have hlow : m * 2 ^ k < 2 * B := by
        have h1 := Nat.mul_lt_mul_of_pos_right l2 (two_pos k)
        rw [← Nat.pow_add] at h1
        have h2 : 2 ^ (L + 1 + k) ≤ 2 ^ 52 := Nat.pow_le_pow_right (by omega) (by omega)
        rw [← B_eq] at h2
        omega
      obtain ⟨v0, _⟩ := V_at (s := 0) hlow (.inl rfl)
      rw [Nat.zero_mul, Nat.zero_add] at v0
      have hv : m * 2 ^ e = V (m * 2 ^ k) * 2 ^ K := by
        rw [v0, Nat.pow_zero, Nat.mul_one, Nat.mul_assoc, ← Nat.pow_add]
        congr 2; omega
      rw [hv]
      have : (m * 2 ^ k + (decide (1 < 2 * 0) || (1 == 2 * 0 && m * 2 ^ k % 2 == 1)).toNat) = m * 2 ^ k := by simp
      rw [this]
      exact Rnd.exact _ _
    · obtain ⟨d, hd⟩ := Int.eq_ofNat_of_zero_le (show 0 ≤ -1074 - p by omega)
      have u1 : (p - (-1074)).toNat = 0 := by omega
      have u2 : (-1074 - p).toNat = d := by omega
      rw [u1, u2]
      unfold Toward.cut
      simp only [Nat.shiftLeft_zero, hL]
      by_cases hdl : d ≤ L + 2
      · rw [Nat.min_eq_left hdl, shl_one]
        have hpd := two_pos d
        have hlow : m / 2 ^ d < 2 * B := by
          rw [Nat.div_lt_iff_lt_mul hpd]
          have h2 : 2 ^ (L + 1) ≤ 2 ^ (52 + d) := Nat.pow_le_pow_right (by omega) (by omega)
          rw [Nat.pow_add 2 52 d, ← B_eq] at h2
          have := Nat.mul_le_mul_right (2 ^ d) (show B ≤ 2 * B by omega)
          omega
        obtain ⟨v0, v1⟩ := V_at (s := 0) hlow (.inl rfl)
        rw [Nat.zero_mul, Nat.zero_add] at v0 v1
        refine rnd_step (d := d) (s := 0) (r0 := m / 2 ^ d) (low := m / 2 ^ d) (rest := m % 2 ^ d) ?_ (Nat.mod_lt _ hpd) (by omega) v0 v1 rfl rfl
        rw [Nat.mul_comm]; exact (Nat.div_add_mod _ _).symm
      · rw [Nat.min_eq_right (by omega), shl_one]
        have hlt : m < 2 ^ (L + 2) := by
          have : 2 ^ (L + 1) ≤ 2 ^ (L + 2) := Nat.pow_le_pow_right (by omega) (by omega)
          omega
        have hlt2 : 2 * m < 2 ^ (L + 2) := by rw [Nat.pow_succ]; omega
        rw [Nat.div_eq_of_lt hlt, Nat.mod_eq_of_lt hlt]
        have hmore : (0 + (decide (2 ^ (L + 2) < 2 * m) || (2 ^ (L + 2) == 2 * m && 0 % 2 == 1)).toNat) = 0 := by
          have : ¬ 2 ^ (L + 2) < 2 * m := by omega
          simp [this]
        rw [hmore]
        have hle : 2 * (m * 2 ^ e) < 2 ^ K := by
          rw [← Nat.mul_assoc]
          have h1 := Nat.mul_lt_mul_of_pos_right hlt2 (two_pos e)
          rw [← Nat.pow_add] at h1
          have h2 : 2 ^ (L + 2 + e) ≤ 2 ^ K := Nat.pow_le_pow_right (by omega) (by omega)
          omega
        have V1 : V (0 + 1) = 1 := by decide
        refine ⟨0, by rw [V_zero]; omega, by rw [V1]; omega, fun _ => rfl, fun h => ?_, fun h => ?_⟩
        · rw [V_zero, V1] at h; omega
        · rw [V_zero, V1] at h; omega
end Fl

end Go.Proofs.Ytfknaheijidhcaa

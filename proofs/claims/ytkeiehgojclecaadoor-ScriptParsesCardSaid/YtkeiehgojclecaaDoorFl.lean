/- Floats as places on one line: a word that is a number or an infinity has a whole number as its place, and the model's order of two words is the order of their places. -/
import Derived.Laws.FloatArith

namespace Go.Proofs.YtkeiehgojclecaaDoor

namespace Fl

open Ieee

def B : Nat := 4503599627370496
def INF : Nat := 9218868437227405312
def SW : Nat := 9223372036854775808
theorem binade_eq : double.binade = B := by decide
theorem inf_eq : double.infRung = INF := by decide
theorem sw_eq : double.signWeight = SW := by decide
theorem least_eq : double.leastPlace = -1074 := by decide
theorem B_pos : 0 < B := by decide
theorem B_le_INF : B ≤ INF := by decide
theorem INF_lt_SW : INF < SW := by decide
theorem B_dvd : INF = 2047 * B := by decide
theorem SW_eq : SW = 2048 * B := by decide

/-- The place without its sign; the sign. -/
def rung (w : Nat) : Nat := w % SW
def neg (w : Nat) : Bool := w / SW % 2 == 1
def mg (r : Nat) : Nat := if r < B then r else B + r % B
def sh (r : Nat) : Nat := if r < B then 0 else r / B - 1
/-- How great the number at a place is, counted in the least. -/
def V (r : Nat) : Nat := mg r * 2 ^ sh r
/-- The place on the line. -/
def iv (w : Nat) : Int := if neg w then -(rung w : Int) else (rung w : Int)
def nan (w : Nat) : Bool := decide (INF < rung w)

theorem read_eq (w : Nat) : double.read w = if rung w < B then .number (neg w) (rung w) (-1074) else if rung w < INF then .number (neg w) (B + rung w % B) (-1074 + (rung w / B - 1 : Nat)) else if rung w = INF then .infinity (neg w) else .nan (neg w) (rung w - INF) := by
  unfold Format.read
  simp only [binade_eq, inf_eq, sw_eq, least_eq]
  rfl
theorem read_num {w : Nat} (h : rung w < INF) : double.read w = .number (neg w) (mg (rung w)) (-1074 + (sh (rung w) : Nat)) := by
  rw [read_eq]
  unfold mg sh
  by_cases h1 : rung w < B
  · simp [h1]
  · rw [if_neg h1, if_pos h, if_neg h1, if_neg h1]
theorem read_inf {w : Nat} (h : rung w = INF) : double.read w = .infinity (neg w) := by
  have h2 : ¬ INF < B := by decide
  rw [read_eq, h, if_neg h2, if_neg (by omega), if_pos rfl]
theorem read_nan {w : Nat} (h : INF < rung w) : double.read w = .nan (neg w) (rung w - INF) := by
  have h2 : B ≤ INF := B_le_INF
  rw [read_eq, if_neg (by omega), if_neg (by omega), if_neg (by omega)]

theorem V_zero : V 0 = 0 := by decide
theorem V_succ (r : Nat) : V r < V (r + 1) := by
  have hB := B_pos
  unfold V mg sh
  by_cases h : r + 1 < B
  · rw [if_pos (by omega), if_pos (by omega), if_pos h, if_pos h]; simp
  · rw [if_neg h, if_neg h]
    by_cases h1 : r < B
    · have e : r + 1 = B := by omega
      rw [if_pos h1, if_pos h1, e, Nat.mod_self, Nat.div_self hB]; simp; omega
    · rw [if_neg h1, if_neg h1]
      have hd := Nat.div_add_mod r B
      have hm := Nat.mod_lt r hB
      have hq : 1 ≤ r / B := by
        rw [Nat.le_div_iff_mul_le hB]; omega
      by_cases h2 : r % B + 1 < B
      · have e1 : (r + 1) / B = r / B := by
          rw [Nat.div_eq_iff hB]
          rw [Nat.mul_comm] at hd
          have := Nat.add_mul (r / B) 1 B
          omega
        have e2 : (r + 1) % B = r % B + 1 := by
          have := Nat.div_add_mod (r + 1) B
          rw [e1] at this
          omega
        rw [e1, e2]
        exact Nat.mul_lt_mul_of_pos_right (by omega) (Nat.two_pow_pos _)
      · have e0 : r % B = B - 1 := by omega
        have e1 : (r + 1) / B = r / B + 1 := by
          rw [Nat.div_eq_iff hB]
          rw [Nat.mul_comm] at hd
          have := Nat.add_mul (r / B) 1 B
          have := Nat.add_mul (r / B + 1) 1 B
          omega
        have e2 : (r + 1) % B = 0 := by
          have := Nat.div_add_mod (r + 1) B
          rw [e1, Nat.mul_add] at this
          omega
        rw [e0, e1, e2]
        have e3 : r / B + 1 - 1 = (r / B - 1) + 1 := by omega
        rw [e3, Nat.pow_succ, Nat.add_zero, ← Nat.mul_assoc, Nat.mul_right_comm]
        exact Nat.mul_lt_mul_of_pos_right (by omega) (Nat.two_pow_pos _)
theorem V_lt {a b : Nat} (h : a < b) : V a < V b := by
  induction b with
  | zero => omega
  | succ n ih =>
    rcases Nat.lt_or_ge a n with h1 | h1
    · exact Nat.lt_trans (ih h1) (V_succ n)
    · obtain rfl : a = n := by omega
      exact V_succ a
theorem V_le {a b : Nat} (h : a ≤ b) : V a ≤ V b := by
  rcases Nat.lt_or_eq_of_le h with h | rfl
  · exact Nat.le_of_lt (V_lt h)
  · exact Nat.le_refl _
theorem V_lt_iff {a b : Nat} : V a < V b ↔ a < b := ⟨fun h => by
  rcases Nat.lt_or_ge a b with h1 | h1
  · exact h1
  · have := V_le h1; omega, V_lt⟩

/-- The number at a place, with its sign. -/
def sv (w : Nat) : Int := if neg w then -(V (rung w) : Int) else (V (rung w) : Int)
theorem sv_lt_iff {x y : Nat} : sv x < sv y ↔ iv x < iv y := by
  have h1 := @V_lt_iff (rung x) (rung y)
  have h2 := @V_lt_iff (rung y) (rung x)
  have hx := @V_lt_iff 0 (rung x)
  have hy := @V_lt_iff 0 (rung y)
  rw [V_zero] at hx hy
  unfold sv iv
  cases neg x <;> cases neg y <;> simp only [if_true, if_false, Bool.false_eq_true] <;> omega
theorem sv_eq_iff {x y : Nat} : sv x = sv y ↔ iv x = iv y := by
  have h1 := @sv_lt_iff x y
  have h2 := @sv_lt_iff y x
  omega
theorem cmp_of {a b c d : Int} (h1 : a < b ↔ c < d) (h2 : a = b ↔ c = d) : compare a b = compare c d := by
  simp only [compare, compareOfLessAndEq]
  by_cases h : c < d
  · rw [if_pos h, if_pos (h1.2 h)]
  · rw [if_neg h, if_neg (fun h' => h (h1.1 h'))]
    by_cases h' : c = d
    · rw [if_pos h', if_pos (h2.2 h')]
    · rw [if_neg h', if_neg (fun h'' => h' (h2.1 h''))]
theorem signed_scale (s : Bool) (m k a : Nat) : signed s m a * ((2 ^ k : Nat) : Int) = signed s m (a + k) := by
  unfold signed
  rw [Nat.shiftLeft_eq, Nat.shiftLeft_eq, Nat.pow_add, ← Nat.mul_assoc]
  cases s
  · simp [Int.natCast_mul]
  · simp [Int.natCast_mul, Int.neg_mul]
theorem sv_signed (w : Nat) : sv w = signed (neg w) (mg (rung w)) (sh (rung w)) := by
  unfold sv signed V
  rw [Nat.shiftLeft_eq]
theorem order_eq {x y : Nat} (hx : rung x ≤ INF) (hy : rung y ≤ INF) : double.order x y = some (compare (iv x) (iv y)) := by
  unfold Format.order
  rcases Nat.lt_or_eq_of_le hx with hx | hx
  · rcases Nat.lt_or_eq_of_le hy with hy | hy
    · rw [read_num hx, read_num hy]
      simp only [Datum.order, Option.some.injEq]
      generalize ha : sh (rung x) = a
      generalize hb : sh (rung y) = b
      have e1 : (-1074 + (a : Int) - min (-1074 + (a : Int)) (-1074 + (b : Int))).toNat = a - min a b := by omega
      have e2 : (-1074 + (b : Int) - min (-1074 + (a : Int)) (-1074 + (b : Int))).toNat = b - min a b := by omega
      rw [e1, e2]
      have s1 := signed_scale (neg x) (mg (rung x)) (min a b) (a - min a b)
      have s2 := signed_scale (neg y) (mg (rung y)) (min a b) (b - min a b)
      rw [Nat.sub_add_cancel (Nat.min_le_left _ _), ← ha, ← sv_signed] at s1
      rw [Nat.sub_add_cancel (Nat.min_le_right _ _), ← hb, ← sv_signed] at s2
      rw [ha] at s1; rw [hb] at s2
      have hp : (0 : Int) < ((2 ^ min a b : Nat) : Int) := by exact_mod_cast Nat.two_pow_pos _
      generalize ((2 ^ min a b : Nat) : Int) = p at *
      generalize signed (neg x) (mg (rung x)) (a - min a b) = X at *
      generalize signed (neg y) (mg (rung y)) (b - min a b) = Y at *
      apply cmp_of
      · rw [← sv_lt_iff, ← s1, ← s2]
        exact ⟨fun h => Int.mul_lt_mul_of_pos_right h hp, fun h => Int.lt_of_mul_lt_mul_right h (Int.le_of_lt hp)⟩
      · rw [← sv_eq_iff, ← s1, ← s2]
        exact ⟨fun h => by rw [h], fun h => Int.eq_of_mul_eq_mul_right (by omega) h⟩
    · rw [read_num hx, read_inf hy]
      simp only [Datum.order, Option.some.injEq]
      have : iv y = if neg y then -(INF : Int) else (INF : Int) := by unfold iv; rw [hy]
      rw [this]
      cases hn : neg y
      · have h : iv x < (INF : Int) := by unfold iv; split <;> omega
        simp [compare, compareOfLessAndEq, h]
      · have h : ¬ iv x < -(INF : Int) := by unfold iv; split <;> omega
        have h' : ¬ iv x = -(INF : Int) := by unfold iv; split <;> omega
        simp [compare, compareOfLessAndEq, h, h']
  · rcases Nat.lt_or_eq_of_le hy with hy | hy
    · rw [read_inf hx, read_num hy]
      simp only [Datum.order, Option.some.injEq]
      have : iv x = if neg x then -(INF : Int) else (INF : Int) := by unfold iv; rw [hx]
      rw [this]
      cases hn : neg x
      · have h : ¬ (INF : Int) < iv y := by unfold iv; split <;> omega
        have h' : ¬ (INF : Int) = iv y := by unfold iv; split <;> omega
        simp [compare, compareOfLessAndEq, h, h']
      · have h : -(INF : Int) < iv y := by unfold iv; split <;> omega
        simp [compare, compareOfLessAndEq, h]
    · rw [read_inf hx, read_inf hy]
      simp only [Datum.order, Option.some.injEq]
      have e1 : iv x = if neg x then -(INF : Int) else (INF : Int) := by unfold iv; rw [hx]
      have e2 : iv y = if neg y then -(INF : Int) else (INF : Int) := by unfold iv; rw [hy]
      rw [e1, e2]
      cases neg x <;> cases neg y <;> decide
theorem order_nan {x y : Nat} (h : INF < rung x ∨ INF < rung y) : double.order x y = none := by
  unfold Format.order
  rcases h with h | h
  · rw [read_nan h]; rfl
  · rw [read_nan h]
    cases double.read x <;> rfl

/-- The comparisons of Go. -/
def ltB (x y : Nat) : Bool := !nan x && !nan y && decide (iv x < iv y)
def gtB (x y : Nat) : Bool := !nan x && !nan y && decide (iv y < iv x)
def eqB (x y : Nat) : Bool := !nan x && !nan y && decide (iv x = iv y)
theorem order_cases (x y : Nat) : double.order x y = if nan x || nan y then none else some (compare (iv x) (iv y)) := by
  unfold nan
  by_cases h1 : INF < rung x
  · rw [order_nan (.inl h1)]; simp [h1]
  · by_cases h2 : INF < rung y
    · rw [order_nan (.inr h2)]; simp [h2]
    · rw [order_eq (by omega) (by omega)]; simp [h1, h2]
theorem order_lt (x y : Nat) : (double.order x y == some .lt) = ltB x y := by
  rw [order_cases]; unfold ltB
  cases nan x <;> cases nan y <;> simp [compare, compareOfLessAndEq]
  by_cases h : iv x < iv y
  · simp [h]
  · by_cases h' : iv x = iv y <;> simp [h, h']
theorem order_gt (x y : Nat) : (double.order x y == some .gt) = gtB x y := by
  rw [order_cases]; unfold gtB
  cases nan x <;> cases nan y <;> simp [compare, compareOfLessAndEq]
  by_cases h : iv x < iv y
  · have : ¬ iv y < iv x := by omega
    simp [h, this]
  · by_cases h' : iv x = iv y
    · simp [h']
    · have : iv y < iv x := by omega
      simp [h, h', this]
theorem order_eqB (x y : Nat) : (double.order x y == some .eq) = eqB x y := by
  rw [order_cases]; unfold eqB
  cases nan x <;> cases nan y <;> simp [compare, compareOfLessAndEq]
  by_cases h : iv x < iv y
  · have : ¬ iv x = iv y := by omega
    simp [h, this]
  · by_cases h' : iv x = iv y <;> simp [h, h']
end Fl

end Go.Proofs.YtkeiehgojclecaaDoor

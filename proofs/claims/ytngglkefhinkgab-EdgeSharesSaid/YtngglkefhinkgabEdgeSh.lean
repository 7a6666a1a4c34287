/- The walk of the law EdgeShares. -/
import Derived.Test.YtngglkefhinkgabEdgeS
import Derived.Test.YtngglkefhinkgabFlV
namespace Go.Proofs.Ytngglkefhinkgab
open Go.RowKit Fl

set_option maxRecDepth 100000 in
set_option maxHeartbeats 4000000 in
theorem edgeShares_any (x y : Nat) (n : Int) (w : World) (hx : x < 18446744073709551616) (hy : y < 18446744073709551616) (hn : 0 ≤ n ∧ n ≤ 65535) :
    Calls Try.prog 4 #[F64 x, F64 y, .int .u16 n] w fun e w' => e = .returned (.bool true) ∧ w' = w := by
  obtain ⟨hn0, hn1⟩ := hn
  obtain ⟨i, hi⟩ := Int.eq_ofNat_of_zero_le (show 0 ≤ n / 2 by omega)
  obtain ⟨k, hk⟩ := Int.eq_ofNat_of_zero_le (show 0 ≤ 1 + n by omega)
  obtain ⟨hrl, hsr⟩ := share_ratio i k (by omega) (by omega)
  have r1 := ratio_any (2 * (i : Int) + 1) (2 * (k : Int)) (by omega) (by omega)
  have s1 := share_any x k (by omega) (by omega)
  have s2 := share_any y k (by omega) (by omega)
  have s3 := share_any (ratioF (2 * i + 1) (2 * k)) k (by omega) (by omega)
  have s4 := share_any ONE k (by omega) (by omega)
  have s5 := share_any 0 k (by omega) (by omega)
  have s6 := share_any x 0 (by omega) (by omega)
  have c1 := compare_any x y hx hy
  have b1 := shareI_bd x (n := k) (by omega)
  have b2 := shareI_bd y (n := k) (by omega)
  have bm := shareI_mono (x := x) (y := y) (n := k) (by omega)
  have bc := cmpI_cases (key x) (key y)
  rw [hsr] at s3
  rw [share_one (by omega)] at s4
  rw [share_zero (by omega)] at s5
  rw [share_none] at s6
  have hON : ONE = 4607182418800017408 := rfl
  rw [hON] at s4
  clear hON hsr hx hy hrl
  generalize shareI x k = a at *
  generalize shareI y k = b at *
  generalize ratioF (2 * i + 1) (2 * k) = f at *
  have hab : cmpI (key x) (key y) ≤ 0 → a ≤ b := fun h => bm (by omega)
  clear bm bc
  generalize cmpI (key x) (key y) = c at *
  obtain ⟨hb1, hb2⟩ := b1
  obtain ⟨hb3, hb4⟩ := b2
  have e1 : IntKind.i64.wrap n = n := IntWalk.i64_in _ ⟨by omega, by omega⟩
  have d1 : decide (a < 0) = false := decide_eq_false (by omega)
  have d2 : decide ((k : Int) ≤ a) = false := decide_eq_false (by omega)
  have d3 : decide (b < 0) = false := decide_eq_false (by omega)
  have d4 : decide ((k : Int) ≤ b) = false := decide_eq_false (by omega)
  have n1 : ¬ a < 0 := by omega
  have n2 : ¬ (k : Int) ≤ a := by omega
  have n3 : ¬ b < 0 := by omega
  have n4 : ¬ (k : Int) ≤ b := by omega
  have m1 : (0 : Int) ≤ (i : Int) := by omega
  have m2 : (i : Int) ≤ 40000 := by omega
  have m3 : (1 : Int) ≤ (k : Int) := by omega
  have m4 : (k : Int) ≤ 70000 := by omega
  have f1 : ((i : Int) == (i : Int)) = true := beq_self_eq_true _
  have f2 : ((k : Int) - 1 == (k : Int) - 1) = true := beq_self_eq_true _
  by_cases hc : c ≤ 0
  · have hle : ¬ b < a := by have := hab hc; omega
    have d5 : decide (c ≤ 0) = true := decide_eq_true hc
    have d6 : decide (b < a) = false := decide_eq_false hle
    clear hab
    go_enter Try.func4, Try.ntmps4
    go_wp2_with (first
      | (go_at_call 9; refine (awake1 _).mono ?_; rintro e w1 ⟨rfl, rfl⟩)
      | (go_at_call 10; refine (c1 _).mono ?_; rintro e w1 ⟨rfl, rfl⟩)
      | (go_at_call 13; refine (r1 _).mono ?_; rintro e w1 ⟨rfl, rfl⟩)
      | (go_at_call 12; (with_reducible refine (s1 _).mono ?_); rintro e w1 ⟨rfl, rfl⟩)
      | (go_at_call 12; (with_reducible refine (s2 _).mono ?_); rintro e w1 ⟨rfl, rfl⟩)
      | (go_at_call 12; (with_reducible refine (s3 _).mono ?_); rintro e w1 ⟨rfl, rfl⟩)
      | (go_at_call 12; (with_reducible refine (s4 _).mono ?_); rintro e w1 ⟨rfl, rfl⟩)
      | (go_at_call 12; (with_reducible refine (s5 _).mono ?_); rintro e w1 ⟨rfl, rfl⟩)
      | (go_at_call 12; (with_reducible refine (s6 _).mono ?_); rintro e w1 ⟨rfl, rfl⟩))
    go_ret
    exact ⟨rfl, rfl⟩
  · have d5 : decide (c ≤ 0) = false := decide_eq_false hc
    clear hab
    go_enter Try.func4, Try.ntmps4
    go_wp2_with (first
      | (go_at_call 9; refine (awake1 _).mono ?_; rintro e w1 ⟨rfl, rfl⟩)
      | (go_at_call 10; refine (c1 _).mono ?_; rintro e w1 ⟨rfl, rfl⟩)
      | (go_at_call 13; refine (r1 _).mono ?_; rintro e w1 ⟨rfl, rfl⟩)
      | (go_at_call 12; (with_reducible refine (s1 _).mono ?_); rintro e w1 ⟨rfl, rfl⟩)
      | (go_at_call 12; (with_reducible refine (s2 _).mono ?_); rintro e w1 ⟨rfl, rfl⟩)
      | (go_at_call 12; (with_reducible refine (s3 _).mono ?_); rintro e w1 ⟨rfl, rfl⟩)
      | (go_at_call 12; (with_reducible refine (s4 _).mono ?_); rintro e w1 ⟨rfl, rfl⟩)
      | (go_at_call 12; (with_reducible refine (s5 _).mono ?_); rintro e w1 ⟨rfl, rfl⟩)
      | (go_at_call 12; (with_reducible refine (s6 _).mono ?_); rintro e w1 ⟨rfl, rfl⟩))
    go_ret
    exact ⟨rfl, rfl⟩
end Go.Proofs.Ytngglkefhinkgab

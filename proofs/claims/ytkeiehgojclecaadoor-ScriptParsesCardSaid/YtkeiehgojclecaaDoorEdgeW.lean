/- The walks of package edge, of package math beneath it, and of the reference's floats. -/
import Derived.Test.YtkeiehgojclecaaDoorFlE

import Derived.Test.YtkeiehgojclecaaDoorBase

import Derived.Laws.Externs

import Derived.IntWalk

namespace Go.Proofs.YtkeiehgojclecaaDoor

open Go.RowKit Fl

theorem cmpI_zero (a b : Int) : (cmpI a b == 0) = decide (a = b) := by
  unfold cmpI
  rw [Bool.eq_iff_iff, beq_iff_eq, decide_eq_true_eq]
  split
  · omega
  · split <;> omega
theorem fmt_eq (x y : Nat) : FloatKind.f64.format.order x y = Ieee.double.order x y := rfl
abbrev F64 (x : Nat) : Value := .float .f64 x
theorem run_bits (x : Nat) (w : World) : (callFunc 15 #[.float .f64 x]).run Tryd.prog w = .ok (.value (.int .u64 x)) w := by
  rw [run_callFunc_extern (e := Extern.MathFloatBits.float64bits) Tryd.func15 (by kernel_rfl) (by kernel_rfl) (by kernel_rfl) (by kernel_rfl)]; rfl
theorem run_frombits (n : Int) (w : World) : (callFunc 14 #[.int .u64 n]).run Tryd.prog w = .ok (.value (.float .f64 n.toNat)) w := by
  rw [run_callFunc_extern (e := Extern.MathFloatBits.float64frombits) Tryd.func14 (by kernel_rfl) (by kernel_rfl) (by kernel_rfl) (by kernel_rfl)]; rfl

theorem run_negf (x : Nat) (w : World) : (Op.unary UnOp.neg (.float .f64 x)).run Tryd.prog w = .ok (.float .f64 (x ^^^ 2 ^ 63)) w := rfl

set_option maxHeartbeats 400000 in
theorem isNaN_any (x : Nat) (w : World) : Calls Tryd.prog 68 #[F64 x] w fun e w' => e = .returned (.bool (nan x)) ∧ w' = w := by
  go_enter Tryd.func68, Tryd.ntmps68
  go_wp2
  go_ret
  refine ⟨ret_bool ?_, rfl⟩
  rw [fmt_eq, bne, order_eqB, Fl.eq_self, Bool.not_not]

theorem sign_wrap (x : Nat) (hx : x < 18446744073709551616) : decide (IntKind.i64.wrap (x : Int) < 0) = neg x := by
  rw [neg_lt hx, IntKind.wrap_i64, Bool.eq_iff_iff, decide_eq_true_eq, decide_eq_true_eq]
  unfold SW
  omega
set_option maxHeartbeats 400000 in
theorem signbit_any (x : Nat) (hx : x < 18446744073709551616) (w : World) : Calls Tryd.prog 59 #[F64 x] w fun e w' => e = .returned (.bool (neg x)) ∧ w' = w := by
  have hb := run_bits
  have hs := sign_wrap x hx
  clear hx
  go_enter Tryd.func59, Tryd.ntmps59
  go_wp2
  go_ret
  refine ⟨ret_bool ?_, rfl⟩
  rw [← IntWalk.i64_left]; exact hs

set_option maxHeartbeats 400000 in
theorem isInf_neg_any (x : Nat) (w : World) : Calls Tryd.prog 69 #[F64 x, .int .i64 (-1)] w fun e w' => e = .returned (.bool (decide (kindI x = 1))) ∧ w' = w := by
  have hn := run_negf x
  go_enter Tryd.func69, Tryd.ntmps69
  go_wp2
  go_ret
  refine ⟨ret_bool ?_, rfl⟩
  rw [← isInf_neg, ← order_gt]; rfl
set_option maxHeartbeats 400000 in
theorem isInf_pos_any (x : Nat) (w : World) : Calls Tryd.prog 69 #[F64 x, .int .i64 1] w fun e w' => e = .returned (.bool (decide (kindI x = 5))) ∧ w' = w := by
  go_enter Tryd.func69, Tryd.ntmps69
  go_wp2
  go_ret
  refine ⟨ret_bool ?_, rfl⟩
  rw [← isInf_pos, ← order_gt]; rfl

theorem lt0 (x : Nat) : (FloatKind.f64.format.order x 0 == some .lt) = (!nan x && decide (iv x < 0)) := (order_lt x 0).trans (lt_zero x)
theorem gt0 (x : Nat) : (FloatKind.f64.format.order x 0 == some .gt) = (!nan x && decide (0 < iv x)) := (order_gt x 0).trans (gt_zero x)
theorem eq0 (x : Nat) : (FloatKind.f64.format.order x 0 == some .eq) = (!nan x && decide (iv x = 0)) := (order_eqB x 0).trans (eq_zero x)

set_option maxHeartbeats 400000 in
theorem ekind_any (x : Nat) (w : World) : Calls Tryd.prog 54 #[F64 x] w fun e w' => e = .returned (.int .i64 (kindI x)) ∧ w' = w := by
  have hlt := lt0 x
  have hgt := gt0 x
  go_enter Tryd.func54, Tryd.ntmps54
  go_wp2_with (first
    | (go_at_call 68; refine (isNaN_any _ _).mono ?_; rintro e w1 ⟨rfl, rfl⟩)
    | (go_at_call 69; (with_reducible refine (isInf_neg_any _ _).mono ?_); rintro e w1 ⟨rfl, rfl⟩)
    | (go_at_call 69; (with_reducible refine (isInf_pos_any _ _).mono ?_); rintro e w1 ⟨rfl, rfl⟩))
  all_goals go_ret
  all_goals refine ⟨ret_int ?_, rfl⟩
  all_goals clear hlt hgt
  all_goals first
    | exact (kind_zero.2 (by assumption)).symm
    | (have h := kind_num (x := x) (by assumption); have hI : (0 : Int) < (INF : Int) := (by decide); omega)

set_option maxHeartbeats 400000 in
theorem refKind_any (x : Nat) (w : World) : Calls Tryd.prog 58 #[F64 x] w fun e w' => e = .returned (.int .i64 (kindI x)) ∧ w' = w := by
  have hlt := lt0 x
  have heq := eq0 x
  have hself : (FloatKind.f64.format.order x x != some .eq) = nan x := by rw [fmt_eq, bne, order_eqB, Fl.eq_self, Bool.not_not]
  go_enter Tryd.func58, Tryd.ntmps58
  go_wp2_with (first
    | (go_at_call 69; (with_reducible refine (isInf_neg_any _ _).mono ?_); rintro e w1 ⟨rfl, rfl⟩)
    | (go_at_call 69; (with_reducible refine (isInf_pos_any _ _).mono ?_); rintro e w1 ⟨rfl, rfl⟩))
  all_goals go_ret
  all_goals refine ⟨ret_int ?_, rfl⟩
  all_goals clear hlt heq hself
  all_goals first
    | exact (kind_zero.2 (by assumption)).symm
    | (have h := kind_num (x := x) (by assumption); have hI : (0 : Int) < (INF : Int) := (by decide); omega)

/-- What package cmp says of two floats. -/
def cmpF (x y : Nat) : Int := if nan x then (if nan y then 0 else -1) else if nan y then 1 else if ltB x y then -1 else if gtB x y then 1 else 0
theorem ltxy (x y : Nat) : (FloatKind.f64.format.order x y == some .lt) = ltB x y := order_lt x y
theorem gtxy (x y : Nat) : (FloatKind.f64.format.order x y == some .gt) = gtB x y := order_gt x y
theorem eqxy (x y : Nat) : (FloatKind.f64.format.order x y == some .eq) = eqB x y := order_eqB x y
set_option maxHeartbeats 400000 in
theorem refCompare_any (x y : Nat) (hx : x < 18446744073709551616) (hy : y < 18446744073709551616) (w : World) : Calls Tryd.prog 46 #[F64 x, F64 y] w fun e w' => e = .returned (.int .i64 (cmpI (key x) (key y))) ∧ w' = w := by
  rw [← cmpR_key]
  have hlt := ltxy x y
  have hgt := gtxy x y
  go_enter Tryd.func46, Tryd.ntmps46
  go_wp2_with (first
    | (go_at_call 58; refine (refKind_any _ _).mono ?_; rintro e w1 ⟨rfl, rfl⟩)
    | (go_at_call_of 59 (F64 x); refine (signbit_any _ hx _).mono ?_; rintro e w1 ⟨rfl, rfl⟩)
    | (go_at_call 59; refine (signbit_any _ hy _).mono ?_; rintro e w1 ⟨rfl, rfl⟩))
  all_goals go_ret
  all_goals refine ⟨ret_int ?_, rfl⟩
  all_goals clear hlt hgt
  all_goals unfold cmpR
  all_goals simp only [beq_iff_eq, beq_eq_false_iff_ne, ne_eq] at *
  all_goals simp_all

set_option maxHeartbeats 400000 in
theorem refSame_any (x y : Nat) (hx : x < 18446744073709551616) (hy : y < 18446744073709551616) (w : World) : Calls Tryd.prog 33 #[F64 x, F64 y] w fun e w' => e = .returned (.bool (decide (key x = key y))) ∧ w' = w := by
  go_enter Tryd.func33, Tryd.ntmps33
  go_wp2_with (go_at_call 46; refine (refCompare_any _ _ hx hy _).mono ?_; rintro e w1 ⟨rfl, rfl⟩)
  go_ret
  exact ⟨ret_bool (cmpI_zero _ _), rfl⟩
end Go.Proofs.YtkeiehgojclecaaDoor

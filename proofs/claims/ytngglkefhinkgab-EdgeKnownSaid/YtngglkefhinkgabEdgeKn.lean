/- The walk of the law EdgeKnown. -/
import Derived.Test.YtngglkefhinkgabEdgeMo
namespace Go.Proofs.Ytngglkefhinkgab
open Go.RowKit Fl

/-- The NaN that the model draws where an operation has no answer. -/
def drawnNaN (w : World) (x y : Nat) : Nat := Question.cut (.nanBits .f64 x y) (w.tape w.drawn (.nanBits .f64 x y))
theorem drawnNaN_facts (w : World) (x y : Nat) : nan (drawnNaN w x y) = true ∧ drawnNaN w x y < 18446744073709551616 := by
  unfold drawnNaN
  generalize w.tape w.drawn (.nanBits .f64 x y) = t
  have e : Question.cut (.nanBits .f64 x y) t = (t % 2) * 2 ^ 63 + 9218868437227405312 + 1 + (t / 2) % (2 ^ 52 - 1) := rfl
  rw [e]
  have h1 : t % 2 = 0 ∨ t % 2 = 1 := by omega
  have h2 : t / 2 % (2 ^ 52 - 1) < 2 ^ 52 - 1 := Nat.mod_lt _ (by decide)
  generalize t / 2 % (2 ^ 52 - 1) = s at *
  have p52 : (2 : Nat) ^ 52 = 4503599627370496 := by decide
  have p63 : (2 : Nat) ^ 63 = 9223372036854775808 := by decide
  rw [p52] at h2
  rw [p63]
  unfold nan rung SW INF
  rw [decide_eq_true_eq]
  rcases h1 with h | h <;> rw [h] <;> omega
theorem run_add_nan (w : World) : (binOp .add 22 (.float .f64 9218868437227405312) (.float .f64 18442240474082181120)).run Try.prog w = .ok (.float .f64 (drawnNaN w 9218868437227405312 18442240474082181120)) w.drew := by
  have h : FloatKind.f64.format.add 9218868437227405312 18442240474082181120 = none := by decide +kernel
  simp only [binOp, Op.floatArith, h]
  rfl

set_option maxHeartbeats 1000000 in
theorem sum_infs (b : Nat) (w : World) (c0 : w.cell? ⟨b, 0, .none⟩ = some (F64 9218868437227405312)) (c1 : w.cell? ⟨b, 1, .none⟩ = some (F64 18442240474082181120)) :
    Calls Try.prog 28 #[.slice (some ⟨b, 0, .none⟩) 2 2] w fun e w' => ∃ z, e = .returned (F64 z) ∧ nan z = true ∧ z < 18446744073709551616 ∧ w' = w.drew := by
  have h1 := fun w : World => run_float_arith (P := Try.prog) w .add 22 .f64 0 9218868437227405312 9218868437227405312 (by decide +kernel)
  have h2 := run_add_nan
  have hz := drawnNaN_facts w 9218868437227405312 18442240474082181120
  go_enter Try.func28, Try.ntmps28
  go_wp2
  go_loopw [3, 8] (fun v3 v8 wr => (v8 = .int .i64 0 ∧ v3 = F64 0 ∧ wr = w) ∨ (v8 = .int .i64 1 ∧ v3 = F64 9218868437227405312 ∧ wr = w) ∨ (v8 = .int .i64 2 ∧ ∃ z, v3 = F64 z ∧ nan z = true ∧ z < 18446744073709551616 ∧ wr = w.drew)) (fun _ v8 _ => 2 - (intOf v8).toNat)
  case atStart => exact .inl ⟨rfl, rfl, rfl⟩
  case round =>
    rcases hrel with ⟨rfl, rfl, hw⟩ | ⟨rfl, rfl, hw⟩ | ⟨rfl, z, rfl, hz1, hz2, hw⟩
    · obtain rfl := hw.symm
      go_wp2
      go_roundw
      case rel => exact .inr (.inl ⟨rfl, rfl, by first | rfl | trivial⟩)
      case measure => simp [intOf]
    · obtain rfl := hw.symm
      go_wp2
      go_roundw
      case rel => exact .inr (.inr ⟨rfl, _, rfl, hz.1, hz.2, by first | rfl | trivial⟩)
      case measure => simp [intOf]
    · obtain rfl := hw.symm
      go_wp2
      go_ret
      exact ⟨z, rfl, hz1, hz2, rfl⟩

set_option maxRecDepth 100000 in
set_option maxHeartbeats 4000000 in
theorem edgeKnown_any (w : World) : Calls Try.prog 8 #[] w fun e w' => e = .returned (.bool true) ∧ Below w.heap.size w w' := by
  have hneg : ∀ w : World, (Op.unary UnOp.neg (.float .f64 9218868437227405312)).run Try.prog w = .ok (.float .f64 18442240474082181120) w := fun w => rfl
  have hinf := inf_any 1
  rw [if_pos (by omega)] at hinf
  obtain ⟨X, hX⟩ : ∃ X : Nat → Nat, X = fun k => [9221120237041090561, 18442240474082181120, 9223372036854775808, 0].getD k 0 := ⟨_, rfl⟩
  have hmx : mxF X 4 = 0 := by rw [hX]; decide +kernel
  have hXb : ∀ j, X j < 18446744073709551616 := by
    intro j
    rw [hX]
    match j with
    | 0 => show 9221120237041090561 < _; omega
    | 1 => show 18442240474082181120 < _; omega
    | 2 => show 9223372036854775808 < _; omega
    | 3 => show 0 < _; omega
    | j + 4 => show ([] : List Nat).getD j 0 < _; simp
  have hmax : ∀ (b : Nat) (w : World), w.heap[b]? = some (.cells #[F64 9221120237041090561, F64 18442240474082181120, F64 9223372036854775808, F64 0] 22 (0, 0)) → Calls Try.prog 24 #[.slice (some ⟨b, 0, .none⟩) 4 4] w fun e w' => e = .returned (.tuple #[F64 0, .bool true]) ∧ w' = w := by
    intro b w hb
    have h := max_any (some ⟨b, 0, .none⟩) 4 4 X w (by omega) ⟨fun j hj => ⟨b, 0, rfl, by
      rw [Nat.zero_add, rowCells hb j, hX]
      have : j = 0 ∨ j = 1 ∨ j = 2 ∨ j = 3 := by omega
      rcases this with rfl | rfl | rfl | rfl <;> rfl⟩, hXb⟩
    rw [if_neg (by omega), hmx] at h
    exact h
  have hmax0 := fun w : World => max_any none 0 0 X w (by omega) ⟨fun j hj => by omega, hXb⟩
  rw [if_pos rfl] at hmax0
  have hsum := sum_infs
  have c1 := compare_any 9221120237041090561 18442240474082181120 (by omega) (by omega)
  rw [show cmpI (key 9221120237041090561) (key 18442240474082181120) = -1 by decide +kernel] at c1
  have c2 := compare_any 9221120237041090561 9221120237041090561 (by omega) (by omega)
  rw [show cmpI (key 9221120237041090561) (key 9221120237041090561) = 0 by decide +kernel] at c2
  have r1 := ratio_any 0 0 (by omega) (by omega)
  rw [show ratioF 0 0 = 9221120237041090561 by decide +kernel] at r1
  have r2 := ratio_any (-3) 0 (by omega) (by omega)
  rw [show ratioF (-3) 0 = 18442240474082181120 by decide +kernel] at r2
  have s1 := share_any 9221120237041090561 8 (by omega) (by omega)
  rw [show shareI 9221120237041090561 8 = 0 by decide +kernel] at s1
  have s2 := share_any 9218868437227405312 8 (by omega) (by omega)
  rw [show shareI 9218868437227405312 8 = 7 by decide +kernel] at s2
  have s3 := share_any 13830554455654793216 8 (by omega) (by omega)
  rw [show shareI 13830554455654793216 8 = 0 by decide +kernel] at s3
  have l1 := clamp_any 9221120237041090561 4607182418800017408 4611686018427387904 (by omega) (by omega) (by omega)
  rw [show clampF 9221120237041090561 4607182418800017408 4611686018427387904 = 4607182418800017408 by decide +kernel] at l1
  have l2 := clamp_any 4617315517961601024 4607182418800017408 4611686018427387904 (by omega) (by omega) (by omega)
  rw [show clampF 4617315517961601024 4607182418800017408 4611686018427387904 = 4611686018427387904 by decide +kernel] at l2
  have k1 := kind_any 13826050856027422720
  rw [show kindI 13826050856027422720 = 2 by decide +kernel] at k1
  have k2 := kind_any 9223372036854775808
  rw [show kindI 9223372036854775808 = 3 by decide +kernel] at k2
  have e1 : ∀ x, x < 18446744073709551616 → ∀ w, Calls Try.prog 15 #[F64 x, F64 x] w fun e w' => e = .returned (.bool true) ∧ w' = w := fun x hx => by
    have := lawSame_any x x hx hx
    rw [decide_eq_true rfl] at this
    exact this
  have e2 : ∀ z, nan z = true → z < 18446744073709551616 → ∀ w, Calls Try.prog 15 #[F64 z, F64 9221120237041090561] w fun e w' => e = .returned (.bool true) ∧ w' = w := fun z hz hz2 => by
    have := lawSame_any z 9221120237041090561 hz2 (by omega)
    rw [decide_eq_true ((key_nan hz).trans (key_nan (by decide +kernel)).symm)] at this
    exact this
  clear hX hmx hXb
  go_enter Try.func8, Try.ntmps8
  go_upto_region 4 with (first
    | (go_at_call 9; refine (awake1 _).mono ?_; rintro e w1 ⟨rfl, rfl⟩)
    | (go_at_call 25; refine (mathNaN_any _).mono ?_; rintro e w1 ⟨rfl, rfl⟩)
    | (go_at_call 26; refine (hinf _).mono ?_; rintro e w1 ⟨rfl, rfl⟩))
  go_wp2_with (first
    | (go_at_call 27; refine (copysign_zero _).mono ?_; rintro e w1 ⟨rfl, rfl⟩)
    | (go_at_call 24; (with_reducible refine (hmax _ _ (heap_alloc_new _ _)).mono ?_); rintro e w1 ⟨rfl, rfl⟩)
    | (go_at_call 24; (with_reducible refine (hmax0 _).mono ?_); rintro e w1 ⟨rfl, rfl⟩)
    | (go_at_call 10; (with_reducible refine (c1 _).mono ?_); rintro e w1 ⟨rfl, rfl⟩)
    | (go_at_call 10; (with_reducible refine (c2 _).mono ?_); rintro e w1 ⟨rfl, rfl⟩)
    | (go_at_call 13; (with_reducible refine (r1 _).mono ?_); rintro e w1 ⟨rfl, rfl⟩)
    | (go_at_call 13; (with_reducible refine (r2 _).mono ?_); rintro e w1 ⟨rfl, rfl⟩)
    | (go_at_call 12; (with_reducible refine (s1 _).mono ?_); rintro e w1 ⟨rfl, rfl⟩)
    | (go_at_call 12; (with_reducible refine (s2 _).mono ?_); rintro e w1 ⟨rfl, rfl⟩)
    | (go_at_call 12; (with_reducible refine (s3 _).mono ?_); rintro e w1 ⟨rfl, rfl⟩)
    | (go_at_call 19; (with_reducible refine (l1 _).mono ?_); rintro e w1 ⟨rfl, rfl⟩)
    | (go_at_call 19; (with_reducible refine (l2 _).mono ?_); rintro e w1 ⟨rfl, rfl⟩)
    | (go_at_call 14; (with_reducible refine (k1 _).mono ?_); rintro e w1 ⟨rfl, rfl⟩)
    | (go_at_call 14; (with_reducible refine (k2 _).mono ?_); rintro e w1 ⟨rfl, rfl⟩)
    | (go_at_call 28; refine (hsum _ _ (by simp) (by simp)).mono ?_; rintro e w1 ⟨z, rfl, hz1, hz2, rfl⟩)
    | (go_at_call 15; (with_reducible refine (e1 _ (by omega) _).mono ?_); rintro e w1 ⟨rfl, rfl⟩)
    | (go_at_call 15; (with_reducible refine (e2 _ hz1 hz2 _).mono ?_); rintro e w1 ⟨rfl, rfl⟩))
  go_ret
  exact ⟨rfl, by go_grown⟩
end Go.Proofs.Ytngglkefhinkgab

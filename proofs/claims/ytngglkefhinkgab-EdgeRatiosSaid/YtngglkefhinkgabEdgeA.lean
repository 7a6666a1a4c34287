/- Package math's makers of floats, package edge's share of one half, and what the laws of layer 1 ask first. -/
import Derived.Test.YtngglkefhinkgabEdgeW
import Derived.WalkLawsBesides
namespace Go.Proofs.Ytngglkefhinkgab
open Go.RowKit Fl

set_option maxHeartbeats 400000 in
theorem mathNaN_any (w : World) : Calls Try.prog 25 #[] w fun e w' => e = .returned (F64 9221120237041090561) ∧ w' = w := by
  have hb := run_frombits
  go_enter Try.func25, Try.ntmps25
  go_wp2
  go_ret
  exact ⟨rfl, rfl⟩
set_option maxHeartbeats 400000 in
theorem inf_any (s : Int) (w : World) : Calls Try.prog 26 #[.int .i64 s] w fun e w' => e = .returned (F64 (if 0 ≤ s then 9218868437227405312 else 18442240474082181120)) ∧ w' = w := by
  have hb := run_frombits
  by_cases h : 0 ≤ s
  · rw [if_pos h]
    go_enter Try.func26, Try.ntmps26
    go_wp2
    go_ret
    exact ⟨rfl, rfl⟩
  · rw [if_neg h]
    go_enter Try.func26, Try.ntmps26
    go_wp2
    go_ret
    exact ⟨rfl, rfl⟩
set_option maxHeartbeats 400000 in
theorem copysign_zero (w : World) : Calls Try.prog 27 #[F64 0, F64 13830554455654793216] w fun e w' => e = .returned (F64 9223372036854775808) ∧ w' = w := by
  have hb := run_frombits
  have hc := run_bits
  go_enter Try.func27, Try.ntmps27
  go_wp2
  go_ret
  exact ⟨rfl, rfl⟩
set_option maxHeartbeats 400000 in
theorem share_half (w : World) : Calls Try.prog 12 #[F64 4602678819172646912, .int .i64 8] w fun e w' => e = .returned (.int .i64 4) ∧ w' = w := by
  have hlt : (FloatKind.f64.format.order 4602678819172646912 0 == some .lt) = false := by decide +kernel
  have hge : (FloatKind.f64.format.order 4602678819172646912 4607182418800017408 == some .gt || FloatKind.f64.format.order 4602678819172646912 4607182418800017408 == some .eq) = false := by decide +kernel
  have hk : kindI 4602678819172646912 = 4 := by decide +kernel
  have hi : floatOfInt .f64 8 = 4620693217682128896 := by decide +kernel
  have hm := fun w : World => run_float_arith (P := Try.prog) w .mul 22 .f64 4602678819172646912 4620693217682128896 4616189618054758400 (by decide +kernel)
  have hc := fun w : World => run_convert_float_int (P := Try.prog) w 22 3 .f64 .i64 4616189618054758400 4 (by kernel_rfl) Try.underlying3 (by decide +kernel)
  go_enter Try.func12, Try.ntmps12
  go_wp2_with (go_at_call 14; refine (hk ▸ kind_any _ _).mono ?_; rintro e w1 ⟨rfl, rfl⟩)
  go_ret
  exact ⟨rfl, rfl⟩
set_option maxHeartbeats 400000 in
theorem awake1 (w : World) : Calls Try.prog 9 #[] w fun e w' => e = .returned (.bool true) ∧ w' = w := by
  have k1 : kindI 9221120237041090561 = 0 := by decide +kernel
  have k2 : kindI 9218868437227405312 = 5 := by decide +kernel
  have k3 : cmpI (key 9223372036854775808) (key 0) = -1 := by decide +kernel
  have h1 := kind_any 9221120237041090561
  have h2 := kind_any 9218868437227405312
  have h3 := compare_any 9223372036854775808 0 (by omega) (by omega)
  have h4 := inf_any 1
  rw [k1] at h1
  rw [k2] at h2
  rw [k3] at h3
  rw [if_pos (by omega)] at h4
  clear k1 k2 k3
  go_enter Try.func9, Try.ntmps9
  go_wp2_with (first
    | (go_at_call 25; refine (mathNaN_any _).mono ?_; rintro e w1 ⟨rfl, rfl⟩)
    | (go_at_call 26; refine (h4 _).mono ?_; rintro e w1 ⟨rfl, rfl⟩)
    | (go_at_call 27; refine (copysign_zero _).mono ?_; rintro e w1 ⟨rfl, rfl⟩)
    | (go_at_call 12; refine (share_half _).mono ?_; rintro e w1 ⟨rfl, rfl⟩)
    | (go_at_call 10; refine (h3 _).mono ?_; rintro e w1 ⟨rfl, rfl⟩)
    | (go_at_call 14; (with_reducible refine (h1 _).mono ?_); rintro e w1 ⟨rfl, rfl⟩)
    | (go_at_call 14; (with_reducible refine (h2 _).mono ?_); rintro e w1 ⟨rfl, rfl⟩))
  go_ret
  exact ⟨rfl, rfl⟩
end Go.Proofs.Ytngglkefhinkgab

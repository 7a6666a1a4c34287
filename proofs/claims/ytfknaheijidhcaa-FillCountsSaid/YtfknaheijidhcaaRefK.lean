/- The reference's words: what PutStatus, PutPage, PutSlot make of fields that fit; where words stand. -/
import Derived.Test.YtfknaheijidhcaaAudN

namespace Go.Proofs.Ytfknaheijidhcaa

open Go.RowKit

attribute [local go_sem ↓] Go.wp_at_zero Go.wp_at_succ

theorem refByte8_any (n : Int) (w : World) : Calls Try.prog 45 #[.int .i64 n] w fun e w' => e = .returned (.bool (okB n)) ∧ w' = w := by
  go_enter Try.func45, Try.ntmps45
  go_wp2
  all_goals go_ret
  all_goals exact ⟨ret_bool (by simp_all [okB] <;> omega), by first | rfl | trivial⟩
theorem or_field (k a : Int) (hk : 0 ≤ k ∧ k ≤ 15) (ha : 0 ≤ a ∧ a ≤ 255) : bits .or .u64 k (a * 16) = k + 16 * a := by
  have hw := u64_wraps (a * 16) (by omega) (by omega)
  rw [← hw]
  have := or_step k a 0 (by omega) hk.1 (by omega) ha.1 ha.2
  simpa using this
theorem or_zero (k : Int) (hk : 0 ≤ k ∧ k < 4096) : bits .or .u64 k 0 = k := by
  have := or_step k 0 1 (by omega) hk.1 (by omega) (by omega) (by omega)
  simpa [IntKind.wrap, IntKind.bits, IntKind.signed] using this

set_option maxHeartbeats 1000000 in
theorem refPutStatus_any (k : Int) (w : World) (hk : k = 1 ∨ k = 2) :
    Calls Try.prog 18 #[.int .i64 k, .int .i64 0] w fun e w' => e = .returned (.int .u64 k) ∧ Below w.heap.size w w' := by
  rcases hk with rfl | rfl
  all_goals
    have ho := or_zero 1 (by omega)
    have ho2 := or_zero 2 (by omega)
    go_enter Try.func18, Try.ntmps18
    go_wp2_with (go_at_call 45; refine (refByte8_any _ _).mono ?_; rintro e w1 ⟨rfl, rfl⟩)
    all_goals go_ret
    all_goals exact ⟨by first | rfl | (exact ret_int (by first | rfl | assumption | (rw [ho, ho2]))), by go_grown⟩

set_option maxHeartbeats 1000000 in
theorem refPutPage_any (k a : Int) (w : World) (hk : 1 ≤ k ∧ k ≤ 4) (ha : 0 ≤ a ∧ a ≤ 255) :
    Calls Try.prog 20 #[.agg #[.int .i64 k, .int .i64 a, .int .i64 0]] w fun e w' => e = .returned (.int .u64 (k + 16 * a)) ∧ Below w.heap.size w w' := by
  have ho := or_field k a (by omega) ha
  have ho2 := or_zero (k + 16 * a) (by omega)
  have hok : okB a = true := okB_iff.2 ha
  have hok0 : okB 0 = true := okB_iff.2 (by omega)
  have h4 : k = 1 ∨ k = 2 ∨ k = 3 ∨ k = 4 := by omega
  rcases h4 with rfl | rfl | rfl | rfl
  all_goals
    go_enter Try.func20, Try.ntmps20
    go_wp2_with (go_at_call 45; refine (refByte8_any _ _).mono ?_; rintro e w1 ⟨rfl, rfl⟩)
    all_goals go_ret
    all_goals exact ⟨by first | rfl | (exact ret_int (by first | rfl | assumption | (rw [ho, ho2]))), by go_grown⟩

set_option maxHeartbeats 1000000 in
theorem refPutSlot_any (k a : Int) (w : World) (hk : 1 ≤ k ∧ k ≤ 3) (ha : 0 ≤ a ∧ a ≤ 255) :
    Calls Try.prog 23 #[.agg #[.int .i64 k, .int .i64 a]] w fun e w' => e = .returned (.int .u64 (k + 16 * a)) ∧ Below w.heap.size w w' := by
  have ho := or_field k a (by omega) ha
  have hok : okB a = true := okB_iff.2 ha
  have h4 : k = 1 ∨ k = 2 ∨ k = 3 := by omega
  rcases h4 with rfl | rfl | rfl
  all_goals
    go_enter Try.func23, Try.ntmps23
    go_wp2_with (go_at_call 45; refine (refByte8_any _ _).mono ?_; rintro e w1 ⟨rfl, rfl⟩)
    all_goals go_ret
    all_goals exact ⟨by first | rfl | (exact ret_int (by first | rfl | assumption | (rw [ho, ho2]))), by go_grown⟩

set_option maxHeartbeats 1000000 in
theorem refPage_any (p c m a : Int) (w : World) :
    Calls Try.prog 19 #[.agg #[.int .i64 p, .int .i64 c, .int .i64 m], .int .i64 a] w fun e w' => e = .returned (.int .i64 (pageIx p c m a)) ∧ Below w.heap.size w w' := by
  have hmay := fun X => refMay_any p c m X
  have hv : pageIx p c m a = if mayB p c m = true ∧ wi a 0 (p - 1) = true then c + a else -1 := rfl
  have hb := @mayB_iff p c m
  rcases Bool.eq_false_or_eq_true (mayB p c m) with h1 | h1
  · have hb := hb.1 h1
    rw [h1] at hmay
    replace hmay := Lib.hid hmay
    by_cases h2 : a < 0
    · rw [hv, if_neg (by rw [wi_iff]; omega)]
      clear hv h1
      go_enter Try.func19, Try.ntmps19
      go_wp2_with (go_at_call 11; refine (hmay.out _).mono ?_; rintro e w1 ⟨rfl, rfl⟩)
      go_ret
      exact ⟨rfl, by go_grown⟩
    · by_cases h3 : p ≤ a
      · rw [hv, if_neg (by rw [wi_iff]; omega)]
        clear hv h1
        go_enter Try.func19, Try.ntmps19
        go_wp2_with (go_at_call 11; refine (hmay.out _).mono ?_; rintro e w1 ⟨rfl, rfl⟩)
        go_ret
        exact ⟨rfl, by go_grown⟩
      · rw [hv, if_pos ⟨h1, wi_iff.2 (by omega)⟩]
        have hw : IntKind.i64.wrap (c + a) = c + a := IntWalk.i64_in _ ⟨by omega, by omega⟩
        clear hv h1
        go_enter Try.func19, Try.ntmps19
        go_wp2_with (go_at_call 11; refine (hmay.out _).mono ?_; rintro e w1 ⟨rfl, rfl⟩)
        go_ret
        exact ⟨rfl, by go_grown⟩
  · rw [hv, if_neg (by rw [h1]; simp)]
    rw [h1] at hmay
    replace hmay := Lib.hid hmay
    clear hv h1 hb
    go_enter Try.func19, Try.ntmps19
    go_wp2_with (go_at_call 11; refine (hmay.out _).mono ?_; rintro e w1 ⟨rfl, rfl⟩)
    go_ret
    exact ⟨rfl, by go_grown⟩

set_option maxHeartbeats 1000000 in
theorem refSlot_in (p c m a i : Int) (w : World) (hm : mayB p c m = true) (ha : 0 ≤ a ∧ a < p) (hi : 0 ≤ i ∧ i < 16) :
    Calls Try.prog 24 #[.agg #[.int .i64 p, .int .i64 c, .int .i64 m], .int .i64 a, .int .i64 i] w fun e w' => e = .returned (.int .i64 (c + p + 16 * a + i)) ∧ Below w.heap.size w w' := by
  have hb := mayB_iff.1 hm
  have hpg := fun X => refPage_any p c m a X
  have hv : pageIx p c m a = c + a := by unfold pageIx; rw [if_pos ⟨hm, wi_iff.2 (by omega)⟩]
  rw [hv] at hpg
  clear hv hm
  replace hpg := Lib.hid hpg
  have w1 : IntKind.i64.wrap (c + p) = c + p := IntWalk.i64_in _ ⟨by omega, by omega⟩
  have w2 : IntKind.i64.wrap (16 * a) = 16 * a := IntWalk.i64_in _ ⟨by omega, by omega⟩
  have w3 : IntKind.i64.wrap (c + p + 16 * a) = c + p + 16 * a := IntWalk.i64_in _ ⟨by omega, by omega⟩
  have w4 : IntKind.i64.wrap (c + p + 16 * a + i) = c + p + 16 * a + i := IntWalk.i64_in _ ⟨by omega, by omega⟩
  have h0 : ¬ c + a < 0 := by omega
  have h1 : ¬ i < 0 := by omega
  have h2 : ¬ 16 ≤ i := by omega
  have t1 := heap_alloc_new w (.cells #[.int .i64 p, .int .i64 c, .int .i64 m] 23)
  have t2 := (Below.refl w.heap.size w).alloc (Nat.le_refl _) (.cells #[.int .i64 p, .int .i64 c, .int .i64 m] 23)
  go_enter Try.func24, Try.ntmps24
  go_wp2_with fail
  refine (hpg.out _).mono ?_
  rintro e w5 ⟨rfl, hb5⟩
  have s0 := (hb5.block _ (by simp)).trans t1
  have c0 : w5.cell? ⟨w.heap.size, 0, .none⟩ = some (.int .i64 p) := rowCells s0 0
  have c1 : w5.cell? ⟨w.heap.size, 1, .none⟩ = some (.int .i64 c) := rowCells s0 1
  go_wp2
  go_ret
  exact ⟨rfl, t2.trans (hb5.mono t2.size)⟩

theorem refSize_any (k : Int) (w : World) (h : 0 ≤ k ∧ k ≤ 3) :
    Calls Try.prog 21 #[.int .i64 k] w fun e w' => e = .returned (.int .i64 (sizeV k)) ∧ w' = w := by
  have : k = 0 ∨ k = 1 ∨ k = 2 ∨ k = 3 := by omega
  rcases this with rfl | rfl | rfl | rfl
  all_goals
    go_enter Try.func21, Try.ntmps21
    go_wp2
    go_ret
    exact ⟨rfl, rfl⟩
theorem refSlots_any (k : Int) (w : World) (h : 0 ≤ k ∧ k ≤ 3) :
    Calls Try.prog 22 #[.int .i64 k] w fun e w' => e = .returned (.int .i64 (slotsV k)) ∧ w' = w := by
  have : k = 0 ∨ k = 1 ∨ k = 2 ∨ k = 3 := by omega
  rcases this with rfl | rfl | rfl | rfl
  all_goals
    go_enter Try.func22, Try.ntmps22
    go_wp2
    go_ret
    exact ⟨rfl, rfl⟩
end Go.Proofs.Ytfknaheijidhcaa

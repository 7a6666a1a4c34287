/- The walk of the law EdgeRatios. -/
import Derived.Test.YtngglkefhinkgabEdgeS
import Derived.Test.YtngglkefhinkgabFlX
import Derived.Deep.CutBlock
namespace Go.Proofs.Ytngglkefhinkgab
open Go.RowKit Fl

theorem le_one (x : Nat) (h : nan x = false) (h1 : iv x ≤ (ONE : Int)) : (FloatKind.f64.format.order x 4607182418800017408 == some .lt || FloatKind.f64.format.order x 4607182418800017408 == some .eq) = true := by
  have e1 := ltxy x ONE
  have e2 := eqxy x ONE
  unfold ONE at e1 e2
  rw [e1, e2]
  show (ltB x ONE || eqB x ONE) = _
  unfold ltB eqB
  rw [nan_one, iv_one, h]
  simp only [Bool.not_false, Bool.true_and, Bool.or_eq_true, decide_eq_true_eq]
  omega
theorem ge_mone (x : Nat) (h : nan x = false) (h1 : -(ONE : Int) ≤ iv x) : (FloatKind.f64.format.order x 13830554455654793216 == some .gt || FloatKind.f64.format.order x 13830554455654793216 == some .eq) = true := by
  have e1 := gtxy x 13830554455654793216
  have e2 := eqxy x 13830554455654793216
  rw [e1, e2]
  unfold gtB eqB
  have n1 : nan 13830554455654793216 = false := by decide +kernel
  have n2 : iv 13830554455654793216 = -(ONE : Int) := by decide +kernel
  rw [n1, n2, h]
  simp only [Bool.not_false, Bool.true_and, Bool.or_eq_true, decide_eq_true_eq]
  omega
theorem flip_lt (x : Nat) (h : x < 18446744073709551616) : x ^^^ 2 ^ 63 < 18446744073709551616 := by
  have : (18446744073709551616 : Nat) = 2 ^ 64 := by decide
  rw [this] at *
  exact Nat.xor_lt_two_pow h (by decide)

set_option maxRecDepth 100000 in
set_option maxHeartbeats 4000000 in
theorem edgeRatios_any (a b : Int) (w : World) (ha : -2147483648 ≤ a ∧ a ≤ 2147483647) (hb : -2147483648 ≤ b ∧ b ≤ 2147483647) :
    Calls Try.prog 5 #[.int .i32 a, .int .i32 b] w fun e w' => e = .returned (.bool true) ∧ w' = w := by
  have r1 := ratio_any a b (by omega) (by omega)
  have k1 := kind_any (ratioF a b)
  by_cases h0 : b = 0
  · subst h0
    have hk : kindI (ratioF a 0) = if a = 0 then 0 else if 0 < a then 5 else 1 := by
      unfold ratioF
      rw [if_pos rfl]
      by_cases h : a = 0
      · rw [if_pos h, if_pos h]; decide +kernel
      · rw [if_neg h, if_neg h]
        by_cases h' : a < 0
        · rw [if_pos h', if_neg (by omega)]; decide +kernel
        · rw [if_neg h', if_pos (by omega)]; decide +kernel
    generalize ratioF a 0 = x at *
    generalize kindI x = k at *
    subst hk
    by_cases h : a = 0
    · subst h
      rw [if_pos rfl] at k1
      go_enter Try.func5, Try.ntmps5
      go_wp2_with (first
        | (go_at_call 9; refine (awake1 _).mono ?_; rintro e w1 ⟨rfl, rfl⟩)
        | (go_at_call 13; refine (r1 _).mono ?_; rintro e w1 ⟨rfl, rfl⟩)
        | (go_at_call 14; refine (k1 _).mono ?_; rintro e w1 ⟨rfl, rfl⟩))
      go_ret
      exact ⟨rfl, rfl⟩
    · rw [if_neg h] at k1
      by_cases h' : 0 < a
      · rw [if_pos h'] at k1
        clear h
        go_enter Try.func5, Try.ntmps5
        go_wp2_with (first
          | (go_at_call 9; refine (awake1 _).mono ?_; rintro e w1 ⟨rfl, rfl⟩)
          | (go_at_call 13; refine (r1 _).mono ?_; rintro e w1 ⟨rfl, rfl⟩)
          | (go_at_call 14; refine (k1 _).mono ?_; rintro e w1 ⟨rfl, rfl⟩))
        go_ret
        exact ⟨rfl, rfl⟩
      · rw [if_neg h'] at k1
        have h2 : a < 0 := by omega
        clear h
        go_enter Try.func5, Try.ntmps5
        go_wp2_with (first
          | (go_at_call 9; refine (awake1 _).mono ?_; rintro e w1 ⟨rfl, rfl⟩)
          | (go_at_call 13; refine (r1 _).mono ?_; rintro e w1 ⟨rfl, rfl⟩)
          | (go_at_call 14; refine (k1 _).mono ?_; rintro e w1 ⟨rfl, rfl⟩))
        go_ret
        exact ⟨rfl, rfl⟩
  · obtain ⟨hk, hkey, y, d, hm, hs, dn, d1, d2⟩ := ratio_law a b ha hb h0
    have r2 := ratio_any (-a) b (by omega) (by omega)
    have rl := ratio_lt a b (by omega) (by omega)
    have rl2 := ratio_lt (-a) b (by omega) (by omega)
    have q1 := lawSame_any (ratioF (-a) b) (ratioF a b ^^^ 2 ^ 63) rl2 (flip_lt _ rl)
    have hle := le_one d dn d2
    have hge := ge_mone d dn d1
    have ng := run_negf (ratioF a b)
    have hmul := fun w : World => run_float_arith (P := Try.prog) w .mul 22 .f64 _ _ _ hm
    have hsub := fun w : World => run_float_arith (P := Try.prog) w .sub 22 .f64 _ _ _ hs
    have w1 : IntKind.i64.wrap a = a := IntWalk.i64_in _ ⟨by omega, by omega⟩
    have w2 : IntKind.i64.wrap b = b := IntWalk.i64_in _ ⟨by omega, by omega⟩
    have hb0 : (b == 0) = false := by simpa using h0
    obtain ⟨ha1, ha2⟩ := ha
    obtain ⟨hb1, hb2⟩ := hb
    clear hm hs dn d1 d2 rl rl2
    generalize ratioF a b = x at *
    generalize ratioF (-a) b = z at *
    generalize kindI x = k at *
    subst hk
    by_cases h : a = 0
    · subst h
      rw [if_pos rfl] at k1
      clear hkey
      by_cases hbp : 0 < b
      · have hbn : decide (0 < b) = true := decide_eq_true hbp
        go_enter Try.func5, Try.ntmps5
        go_wp2_with (first
          | (go_at_call 9; refine (awake1 _).mono ?_; rintro e w1 ⟨rfl, rfl⟩)
          | (go_at_call 13; (with_reducible refine (r1 _).mono ?_); rintro e w1 ⟨rfl, rfl⟩)
          | (go_at_call 13; (with_reducible refine (r2 _).mono ?_); rintro e w1 ⟨rfl, rfl⟩)
          | (go_at_call 14; refine (k1 _).mono ?_; rintro e w1 ⟨rfl, rfl⟩)
          | (go_at_call 15; refine (q1 _).mono ?_; rintro e w1 ⟨rfl, rfl⟩))
        go_ret
        exact ⟨rfl, rfl⟩
      · have hbn : decide (0 < b) = false := decide_eq_false hbp
        go_enter Try.func5, Try.ntmps5
        go_wp2_with (first
          | (go_at_call 9; refine (awake1 _).mono ?_; rintro e w1 ⟨rfl, rfl⟩)
          | (go_at_call 13; (with_reducible refine (r1 _).mono ?_); rintro e w1 ⟨rfl, rfl⟩)
          | (go_at_call 13; (with_reducible refine (r2 _).mono ?_); rintro e w1 ⟨rfl, rfl⟩)
          | (go_at_call 14; refine (k1 _).mono ?_; rintro e w1 ⟨rfl, rfl⟩)
          | (go_at_call 15; refine (q1 _).mono ?_; rintro e w1 ⟨rfl, rfl⟩))
        go_ret
        exact ⟨rfl, rfl⟩
    · rw [if_neg h] at k1
      rw [decide_eq_true (hkey h)] at q1
      have ha0 : (a == 0) = false := by simpa using h
      clear hkey
      by_cases hap : 0 < a
      · have han : decide (0 < a) = true := decide_eq_true hap
        by_cases hbp : 0 < b
        · have hbn : decide (0 < b) = true := decide_eq_true hbp
          rw [if_pos ⟨fun _ => hbp, fun _ => hap⟩] at k1
          clear h h0
          go_enter Try.func5, Try.ntmps5
          go_wp2_with (first
            | (go_at_call 9; refine (awake1 _).mono ?_; rintro e w1 ⟨rfl, rfl⟩)
            | (go_at_call 13; (with_reducible refine (r1 _).mono ?_); rintro e w1 ⟨rfl, rfl⟩)
            | (go_at_call 13; (with_reducible refine (r2 _).mono ?_); rintro e w1 ⟨rfl, rfl⟩)
            | (go_at_call 14; refine (k1 _).mono ?_; rintro e w1 ⟨rfl, rfl⟩)
            | (go_at_call 15; refine (q1 _).mono ?_; rintro e w1 ⟨rfl, rfl⟩))
          go_ret
          exact ⟨rfl, rfl⟩
        · have hbn : decide (0 < b) = false := decide_eq_false hbp
          rw [if_neg (fun h => hbp (h.1 hap))] at k1
          clear h h0
          go_enter Try.func5, Try.ntmps5
          go_wp2_with (first
            | (go_at_call 9; refine (awake1 _).mono ?_; rintro e w1 ⟨rfl, rfl⟩)
            | (go_at_call 13; (with_reducible refine (r1 _).mono ?_); rintro e w1 ⟨rfl, rfl⟩)
            | (go_at_call 13; (with_reducible refine (r2 _).mono ?_); rintro e w1 ⟨rfl, rfl⟩)
            | (go_at_call 14; refine (k1 _).mono ?_; rintro e w1 ⟨rfl, rfl⟩)
            | (go_at_call 15; refine (q1 _).mono ?_; rintro e w1 ⟨rfl, rfl⟩))
          go_ret
          exact ⟨rfl, rfl⟩
      · have han : decide (0 < a) = false := decide_eq_false hap
        by_cases hbp : 0 < b
        · have hbn : decide (0 < b) = true := decide_eq_true hbp
          rw [if_neg (fun h => hap (h.2 hbp))] at k1
          clear h h0
          go_enter Try.func5, Try.ntmps5
          go_wp2_with (first
            | (go_at_call 9; refine (awake1 _).mono ?_; rintro e w1 ⟨rfl, rfl⟩)
            | (go_at_call 13; (with_reducible refine (r1 _).mono ?_); rintro e w1 ⟨rfl, rfl⟩)
            | (go_at_call 13; (with_reducible refine (r2 _).mono ?_); rintro e w1 ⟨rfl, rfl⟩)
            | (go_at_call 14; refine (k1 _).mono ?_; rintro e w1 ⟨rfl, rfl⟩)
            | (go_at_call 15; refine (q1 _).mono ?_; rintro e w1 ⟨rfl, rfl⟩))
          go_ret
          exact ⟨rfl, rfl⟩
        · have hbn : decide (0 < b) = false := decide_eq_false hbp
          rw [if_pos ⟨fun h => absurd h hap, fun h => absurd h hbp⟩] at k1
          clear h h0
          go_enter Try.func5, Try.ntmps5
          go_wp2_with (first
            | (go_at_call 9; refine (awake1 _).mono ?_; rintro e w1 ⟨rfl, rfl⟩)
            | (go_at_call 13; (with_reducible refine (r1 _).mono ?_); rintro e w1 ⟨rfl, rfl⟩)
            | (go_at_call 13; (with_reducible refine (r2 _).mono ?_); rintro e w1 ⟨rfl, rfl⟩)
            | (go_at_call 14; refine (k1 _).mono ?_; rintro e w1 ⟨rfl, rfl⟩)
            | (go_at_call 15; refine (q1 _).mono ?_; rintro e w1 ⟨rfl, rfl⟩))
          go_ret
          exact ⟨rfl, rfl⟩
end Go.Proofs.Ytngglkefhinkgab

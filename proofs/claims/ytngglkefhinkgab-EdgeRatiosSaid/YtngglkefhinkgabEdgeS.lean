/- The walks of shares, ratios and clamps, of package edge and of the reference. -/
import Derived.Test.YtngglkefhinkgabEdgeA
import Derived.Test.YtngglkefhinkgabFlT
namespace Go.Proofs.Ytngglkefhinkgab
open Go.RowKit Fl

theorem cmpI_cases (a b : Int) : cmpI a b = -1 ∧ a < b ∨ cmpI a b = 0 ∧ a = b ∨ cmpI a b = 1 ∧ b < a := by
  unfold cmpI
  split
  · omega
  · split <;> omega
theorem ge_one (x : Nat) : (FloatKind.f64.format.order x 4607182418800017408 == some .gt || FloatKind.f64.format.order x 4607182418800017408 == some .eq) = (!nan x && decide ((ONE : Int) ≤ iv x)) := by
  have h1 := gtxy x ONE
  have h2 := eqxy x ONE
  unfold ONE at h1 h2
  rw [h1, h2]
  show (gtB x ONE || eqB x ONE) = _
  unfold gtB eqB
  rw [nan_one, iv_one]
  cases nan x
  · simp only [Bool.not_false, Bool.true_and]
    rw [Bool.eq_iff_iff]
    simp only [Bool.or_eq_true, decide_eq_true_eq]
    omega
  · rfl

set_option maxHeartbeats 400000 in
theorem share_any (x : Nat) (n : Int) (hn0 : -9223372036854775808 ≤ n) (hn1 : n ≤ 9223372036854775807) (w : World) : Calls Try.prog 12 #[F64 x, .int .i64 n] w fun e w' => e = .returned (.int .i64 (shareI x n)) ∧ w' = w := by
  have hlt := lt0 x
  have hge := ge_one x
  have hk0 := kind_zero (x := x)
  unfold shareI
  by_cases h1 : n < 1
  · rw [if_pos (.inl h1)]
    clear hlt hge hk0
    go_enter Try.func12, Try.ntmps12
    go_wp2_with (go_at_call 14; refine (kind_any _ _).mono ?_; rintro e w1 ⟨rfl, rfl⟩)
    go_ret
    exact ⟨rfl, rfl⟩
  · cases h2 : nan x
    · have hk : kindI x ≠ 0 := fun h => by rw [hk0.1 h] at h2; cases h2
      have hkb : (kindI x == 0) = false := by simpa using hk
      rw [h2] at hlt hge
      by_cases h3 : iv x < 0
      · rw [if_pos (.inr (.inr h3))]
        rw [decide_eq_true h3] at hlt
        clear hge hk0 h3
        go_enter Try.func12, Try.ntmps12
        go_wp2_with (go_at_call 14; refine (kind_any _ _).mono ?_; rintro e w1 ⟨rfl, rfl⟩)
        go_ret
        exact ⟨rfl, rfl⟩
      · rw [if_neg (by simp only [Bool.false_eq_true, false_or, not_or]; exact ⟨h1, h3⟩)]
        rw [decide_eq_false h3] at hlt
        by_cases h4 : (ONE : Int) ≤ iv x
        · rw [if_pos h4]
          rw [decide_eq_true h4] at hge
          clear hk0 h3 h4
          go_enter Try.func12, Try.ntmps12
          go_wp2_with (go_at_call 14; refine (kind_any _ _).mono ?_; rintro e w1 ⟨rfl, rfl⟩)
          go_ret
          exact ⟨rfl, rfl⟩
        · rw [if_neg h4]
          rw [decide_eq_false h4] at hge
          obtain ⟨r, hm0, hc0, ht⟩ := share_conv (x := x) (n := n) (by omega) hn1 (by omega) (by omega)
          generalize (T (prodR (rung x) (R n.natAbs 0)) : Int) = t at *
          have hm := fun w : World => run_float_arith (P := Try.prog) w .mul 22 .f64 _ _ r hm0
          have hc := fun w : World => run_convert_float_int (P := Try.prog) w 22 3 .f64 .i64 r t (by kernel_rfl) Try.underlying3 hc0
          clear hk0 h3 h4 hm0 hc0
          go_enter Try.func12, Try.ntmps12
          go_wp2_with (go_at_call 14; refine (kind_any _ _).mono ?_; rintro e w1 ⟨rfl, rfl⟩)
          all_goals go_ret
          all_goals refine ⟨ret_int ?_, rfl⟩
          all_goals omega
    · have hk : kindI x = 0 := hk0.2 h2
      have hkb : (kindI x == 0) = true := by simpa using hk
      rw [if_pos (.inr (.inl rfl))]
      clear hlt hge hk0 hk
      go_enter Try.func12, Try.ntmps12
      go_wp2_with (go_at_call 14; refine (kind_any _ _).mono ?_; rintro e w1 ⟨rfl, rfl⟩)
      go_ret
      exact ⟨rfl, rfl⟩

set_option maxHeartbeats 400000 in
theorem refShare_any (x : Nat) (n : Int) (hn0 : -9223372036854775808 ≤ n) (hn1 : n ≤ 9223372036854775807) (w : World) : Calls Try.prog 22 #[F64 x, .int .i64 n] w fun e w' => e = .returned (.int .i64 (shareI x n)) ∧ w' = w := by
  have hlt := lt0 x
  have hge := ge_one x
  have hk0 := kind_zero (x := x)
  unfold shareI
  by_cases h1 : n < 1
  · rw [if_pos (.inl h1)]
    clear hlt hge hk0
    go_enter Try.func22, Try.ntmps22
    go_wp2_with (go_at_call 16; refine (refKind_any _ _).mono ?_; rintro e w1 ⟨rfl, rfl⟩)
    go_ret
    exact ⟨rfl, rfl⟩
  · cases h2 : nan x
    · have hk : kindI x ≠ 0 := fun h => by rw [hk0.1 h] at h2; cases h2
      have hkb : (kindI x == 0) = false := by simpa using hk
      rw [h2] at hlt hge
      by_cases h3 : iv x < 0
      · rw [if_pos (.inr (.inr h3))]
        rw [decide_eq_true h3] at hlt
        clear hge hk0 h3
        go_enter Try.func22, Try.ntmps22
        go_wp2_with (go_at_call 16; refine (refKind_any _ _).mono ?_; rintro e w1 ⟨rfl, rfl⟩)
        go_ret
        exact ⟨rfl, rfl⟩
      · rw [if_neg (by simp only [Bool.false_eq_true, false_or, not_or]; exact ⟨h1, h3⟩)]
        rw [decide_eq_false h3] at hlt
        by_cases h4 : (ONE : Int) ≤ iv x
        · rw [if_pos h4]
          rw [decide_eq_true h4] at hge
          clear hk0 h3 h4
          go_enter Try.func22, Try.ntmps22
          go_wp2_with (go_at_call 16; refine (refKind_any _ _).mono ?_; rintro e w1 ⟨rfl, rfl⟩)
          go_ret
          exact ⟨rfl, rfl⟩
        · rw [if_neg h4]
          rw [decide_eq_false h4] at hge
          obtain ⟨r, hm0, hc0, ht⟩ := share_conv (x := x) (n := n) (by omega) hn1 (by omega) (by omega)
          generalize (T (prodR (rung x) (R n.natAbs 0)) : Int) = t at *
          have hm := fun w : World => run_float_arith (P := Try.prog) w .mul 22 .f64 _ _ r hm0
          have hc := fun w : World => run_convert_float_int (P := Try.prog) w 22 3 .f64 .i64 r t (by kernel_rfl) Try.underlying3 hc0
          clear hk0 h3 h4 hm0 hc0
          go_enter Try.func22, Try.ntmps22
          go_wp2_with (go_at_call 16; refine (refKind_any _ _).mono ?_; rintro e w1 ⟨rfl, rfl⟩)
          all_goals go_ret
          all_goals refine ⟨ret_int ?_, rfl⟩
          all_goals omega
    · have hk : kindI x = 0 := hk0.2 h2
      have hkb : (kindI x == 0) = true := by simpa using hk
      rw [if_pos (.inr (.inl rfl))]
      clear hlt hge hk0 hk
      go_enter Try.func22, Try.ntmps22
      go_wp2_with (go_at_call 16; refine (refKind_any _ _).mono ?_; rintro e w1 ⟨rfl, rfl⟩)
      go_ret
      exact ⟨rfl, rfl⟩

set_option maxHeartbeats 400000 in
theorem ratio_any (a b : Int) (ha : -9223372036854775808 ≤ a ∧ a ≤ 9223372036854775807) (hb : -9223372036854775808 ≤ b ∧ b ≤ 9223372036854775807) (w : World) : Calls Try.prog 13 #[.int .i64 a, .int .i64 b] w fun e w' => e = .returned (F64 (ratioF a b)) ∧ w' = w := by
  by_cases h : b = 0
  · unfold ratioF
    rw [if_pos h]
    subst h
    by_cases h1 : a = 0
    · rw [if_pos h1]
      subst h1
      go_enter Try.func13, Try.ntmps13
      go_wp2_with (go_at_call 25; refine (mathNaN_any _).mono ?_; rintro e w1 ⟨rfl, rfl⟩)
      go_ret
      exact ⟨rfl, rfl⟩
    · rw [if_neg h1]
      have h1' : (a == 0) = false := by simpa using h1
      by_cases h2 : a < 0
      · rw [if_pos h2]
        have hc : cmpI a 0 = -1 := by unfold cmpI; rw [if_pos h2]
        have hi := inf_any (-1)
        rw [if_neg (by omega)] at hi
        go_enter Try.func13, Try.ntmps13
        go_wp2_with (first
          | (go_at_call 29; refine (hc ▸ cmpInt_any _ _ _).mono ?_; rintro e w1 ⟨rfl, rfl⟩)
          | (go_at_call 26; refine (hi _).mono ?_; rintro e w1 ⟨rfl, rfl⟩))
        go_ret
        exact ⟨rfl, rfl⟩
      · rw [if_neg h2]
        have hc : cmpI a 0 = 1 := by unfold cmpI; rw [if_neg h2, if_pos (by omega)]
        have hi := inf_any 1
        rw [if_pos (by omega)] at hi
        go_enter Try.func13, Try.ntmps13
        go_wp2_with (first
          | (go_at_call 29; refine (hc ▸ cmpInt_any _ _ _).mono ?_; rintro e w1 ⟨rfl, rfl⟩)
          | (go_at_call 26; refine (hi _).mono ?_; rintro e w1 ⟨rfl, rfl⟩))
        go_ret
        exact ⟨rfl, rfl⟩
  · have hr := fun w : World => run_float_arith (P := Try.prog) w .quo 22 .f64 _ _ _ (ratio_some a b ha hb h)
    have hne : (b != 0) = true := by simpa using h
    generalize ratioF a b = r at *
    clear h
    go_enter Try.func13, Try.ntmps13
    go_wp2
    go_ret
    exact ⟨rfl, rfl⟩

set_option maxHeartbeats 400000 in
theorem refRatio_any (a b : Int) (ha : -9223372036854775808 ≤ a ∧ a ≤ 9223372036854775807) (hb : -9223372036854775808 ≤ b ∧ b ≤ 9223372036854775807) (w : World) : Calls Try.prog 21 #[.int .i64 a, .int .i64 b] w fun e w' => e = .returned (F64 (ratioF a b)) ∧ w' = w := by
  by_cases h : b = 0
  · unfold ratioF
    rw [if_pos h]
    subst h
    by_cases h1 : a = 0
    · rw [if_pos h1]
      subst h1
      go_enter Try.func21, Try.ntmps21
      go_wp2_with (go_at_call 25; refine (mathNaN_any _).mono ?_; rintro e w1 ⟨rfl, rfl⟩)
      go_ret
      exact ⟨rfl, rfl⟩
    · rw [if_neg h1]
      have h1' : (a == 0) = false := by simpa using h1
      by_cases h2 : a < 0
      · rw [if_pos h2]
        have hc : cmpI a 0 = -1 := by unfold cmpI; rw [if_pos h2]
        have hi := inf_any (-1)
        rw [if_neg (by omega)] at hi
        go_enter Try.func21, Try.ntmps21
        go_wp2_with (first
          | (go_at_call 29; refine (hc ▸ cmpInt_any _ _ _).mono ?_; rintro e w1 ⟨rfl, rfl⟩)
          | (go_at_call 26; refine (hi _).mono ?_; rintro e w1 ⟨rfl, rfl⟩))
        go_ret
        exact ⟨rfl, rfl⟩
      · rw [if_neg h2]
        have hc : cmpI a 0 = 1 := by unfold cmpI; rw [if_neg h2, if_pos (by omega)]
        have hi := inf_any 1
        rw [if_pos (by omega)] at hi
        go_enter Try.func21, Try.ntmps21
        go_wp2_with (first
          | (go_at_call 29; refine (hc ▸ cmpInt_any _ _ _).mono ?_; rintro e w1 ⟨rfl, rfl⟩)
          | (go_at_call 26; refine (hi _).mono ?_; rintro e w1 ⟨rfl, rfl⟩))
        go_ret
        exact ⟨rfl, rfl⟩
  · have hr := fun w : World => run_float_arith (P := Try.prog) w .quo 22 .f64 _ _ _ (ratio_some a b ha hb h)
    have hne : (b != 0) = true := by simpa using h
    generalize ratioF a b = r at *
    clear h
    go_enter Try.func21, Try.ntmps21
    go_wp2
    go_ret
    exact ⟨rfl, rfl⟩

set_option maxHeartbeats 800000 in
theorem clamp_any (x lo hi : Nat) (hx : x < 18446744073709551616) (hl : lo < 18446744073709551616) (hh : hi < 18446744073709551616) (w : World) : Calls Try.prog 19 #[F64 x, F64 lo, F64 hi] w fun e w' => e = .returned (F64 (clampF x lo hi)) ∧ w' = w := by
  have kx := kind_zero (x := x)
  have kl := kind_zero (x := lo)
  have kh := kind_zero (x := hi)
  have c1 := compare_any lo hi hl hh
  have c2 := compare_any x lo hx hl
  have c3 := compare_any x hi hx hh
  have b1 := cmpI_cases (key lo) (key hi)
  have b2 := cmpI_cases (key x) (key lo)
  have b3 := cmpI_cases (key x) (key hi)
  have k1 := kind_any x
  have k2 := kind_any lo
  have k3 := kind_any hi
  unfold clampF
  simp only [← kx, ← kl, ← kh]
  clear kx kl kh
  generalize kindI x = a at *
  generalize kindI lo = b at *
  generalize kindI hi = c at *
  generalize key x = p at *
  generalize key lo = q at *
  generalize key hi = r at *
  generalize cmpI q r = d at *
  generalize cmpI p q = e at *
  generalize cmpI p r = f at *
  by_cases ha : a = 0
  · subst ha
    rw [if_pos (.inl rfl)]
    clear b1 b2 b3
    go_enter Try.func19, Try.ntmps19
    go_wp2_with (first
      | (go_at_call 14; (with_reducible refine (k1 _).mono ?_); rintro e w1 ⟨rfl, rfl⟩)
      | (go_at_call 14; (with_reducible refine (k2 _).mono ?_); rintro e w1 ⟨rfl, rfl⟩)
      | (go_at_call 14; (with_reducible refine (k3 _).mono ?_); rintro e w1 ⟨rfl, rfl⟩)
      | (go_at_call 10; (with_reducible refine (c1 _).mono ?_); rintro e w1 ⟨rfl, rfl⟩)
      | (go_at_call 10; (with_reducible refine (c2 _).mono ?_); rintro e w1 ⟨rfl, rfl⟩)
      | (go_at_call 10; (with_reducible refine (c3 _).mono ?_); rintro e w1 ⟨rfl, rfl⟩))
    go_ret
    exact ⟨rfl, rfl⟩
  · have ha' : (a == 0) = false := by simpa using ha
    by_cases hb : b = 0
    · subst hb
      rw [if_pos (.inr (.inl rfl))]
      clear b1 b2 b3
      by_cases hc : c = 0
      · subst hc
        go_enter Try.func19, Try.ntmps19
        go_wp2_with (first
          | (go_at_call 14; (with_reducible refine (k1 _).mono ?_); rintro e w1 ⟨rfl, rfl⟩)
          | (go_at_call 14; (with_reducible refine (k2 _).mono ?_); rintro e w1 ⟨rfl, rfl⟩)
          | (go_at_call 14; (with_reducible refine (k3 _).mono ?_); rintro e w1 ⟨rfl, rfl⟩)
          | (go_at_call 10; (with_reducible refine (c1 _).mono ?_); rintro e w1 ⟨rfl, rfl⟩)
          | (go_at_call 10; (with_reducible refine (c2 _).mono ?_); rintro e w1 ⟨rfl, rfl⟩)
          | (go_at_call 10; (with_reducible refine (c3 _).mono ?_); rintro e w1 ⟨rfl, rfl⟩))
        go_ret
        exact ⟨rfl, rfl⟩
      · have hc' : (c == 0) = false := by simpa using hc
        go_enter Try.func19, Try.ntmps19
        go_wp2_with (first
          | (go_at_call 14; (with_reducible refine (k1 _).mono ?_); rintro e w1 ⟨rfl, rfl⟩)
          | (go_at_call 14; (with_reducible refine (k2 _).mono ?_); rintro e w1 ⟨rfl, rfl⟩)
          | (go_at_call 14; (with_reducible refine (k3 _).mono ?_); rintro e w1 ⟨rfl, rfl⟩)
          | (go_at_call 10; (with_reducible refine (c1 _).mono ?_); rintro e w1 ⟨rfl, rfl⟩)
          | (go_at_call 10; (with_reducible refine (c2 _).mono ?_); rintro e w1 ⟨rfl, rfl⟩)
          | (go_at_call 10; (with_reducible refine (c3 _).mono ?_); rintro e w1 ⟨rfl, rfl⟩))
        go_ret
        exact ⟨rfl, rfl⟩
    · have hb' : (b == 0) = false := by simpa using hb
      by_cases hc : c = 0
      · subst hc
        rw [if_pos (.inr (.inr rfl))]
        clear b1 b2 b3
        go_enter Try.func19, Try.ntmps19
        go_wp2_with (first
          | (go_at_call 14; (with_reducible refine (k1 _).mono ?_); rintro e w1 ⟨rfl, rfl⟩)
          | (go_at_call 14; (with_reducible refine (k2 _).mono ?_); rintro e w1 ⟨rfl, rfl⟩)
          | (go_at_call 14; (with_reducible refine (k3 _).mono ?_); rintro e w1 ⟨rfl, rfl⟩)
          | (go_at_call 10; (with_reducible refine (c1 _).mono ?_); rintro e w1 ⟨rfl, rfl⟩)
          | (go_at_call 10; (with_reducible refine (c2 _).mono ?_); rintro e w1 ⟨rfl, rfl⟩)
          | (go_at_call 10; (with_reducible refine (c3 _).mono ?_); rintro e w1 ⟨rfl, rfl⟩))
        go_ret
        exact ⟨rfl, rfl⟩
      · have hc' : (c == 0) = false := by simpa using hc
        rw [if_neg (by simp [ha, hb, hc])]
        by_cases hd : r < q
        · rw [if_pos (.inl hd)]
          have hd' : decide (0 < d) = true := decide_eq_true (by omega)
          clear b1 b2 b3
          go_enter Try.func19, Try.ntmps19
          go_wp2_with (first
            | (go_at_call 14; (with_reducible refine (k1 _).mono ?_); rintro e w1 ⟨rfl, rfl⟩)
            | (go_at_call 14; (with_reducible refine (k2 _).mono ?_); rintro e w1 ⟨rfl, rfl⟩)
            | (go_at_call 14; (with_reducible refine (k3 _).mono ?_); rintro e w1 ⟨rfl, rfl⟩)
            | (go_at_call 10; (with_reducible refine (c1 _).mono ?_); rintro e w1 ⟨rfl, rfl⟩)
            | (go_at_call 10; (with_reducible refine (c2 _).mono ?_); rintro e w1 ⟨rfl, rfl⟩)
            | (go_at_call 10; (with_reducible refine (c3 _).mono ?_); rintro e w1 ⟨rfl, rfl⟩))
          go_ret
          exact ⟨rfl, rfl⟩
        · have hd' : decide (0 < d) = false := decide_eq_false (by omega)
          by_cases he : p < q
          · rw [if_pos (.inr he)]
            have he' : decide (e < 0) = true := decide_eq_true (by omega)
            clear b1 b2 b3
            go_enter Try.func19, Try.ntmps19
            go_wp2_with (first
              | (go_at_call 14; (with_reducible refine (k1 _).mono ?_); rintro e w1 ⟨rfl, rfl⟩)
              | (go_at_call 14; (with_reducible refine (k2 _).mono ?_); rintro e w1 ⟨rfl, rfl⟩)
              | (go_at_call 14; (with_reducible refine (k3 _).mono ?_); rintro e w1 ⟨rfl, rfl⟩)
              | (go_at_call 10; (with_reducible refine (c1 _).mono ?_); rintro e w1 ⟨rfl, rfl⟩)
              | (go_at_call 10; (with_reducible refine (c2 _).mono ?_); rintro e w1 ⟨rfl, rfl⟩)
              | (go_at_call 10; (with_reducible refine (c3 _).mono ?_); rintro e w1 ⟨rfl, rfl⟩))
            go_ret
            exact ⟨rfl, rfl⟩
          · have he' : decide (e < 0) = false := decide_eq_false (by omega)
            rw [if_neg (by simp [hd, he])]
            by_cases hf : r < p
            · rw [if_pos hf]
              have hf' : decide (0 < f) = true := decide_eq_true (by omega)
              have hff : 0 < f := by omega
              clear b1 b2 b3
              go_enter Try.func19, Try.ntmps19
              go_wp2_with (first
                | (go_at_call 14; (with_reducible refine (k1 _).mono ?_); rintro e w1 ⟨rfl, rfl⟩)
                | (go_at_call 14; (with_reducible refine (k2 _).mono ?_); rintro e w1 ⟨rfl, rfl⟩)
                | (go_at_call 14; (with_reducible refine (k3 _).mono ?_); rintro e w1 ⟨rfl, rfl⟩)
                | (go_at_call 10; (with_reducible refine (c1 _).mono ?_); rintro e w1 ⟨rfl, rfl⟩)
                | (go_at_call 10; (with_reducible refine (c2 _).mono ?_); rintro e w1 ⟨rfl, rfl⟩)
                | (go_at_call 10; (with_reducible refine (c3 _).mono ?_); rintro e w1 ⟨rfl, rfl⟩))
              go_ret
              exact ⟨rfl, rfl⟩
            · rw [if_neg hf]
              have hf' : decide (0 < f) = false := decide_eq_false (by omega)
              have hff : ¬ 0 < f := by omega
              clear b1 b2 b3
              go_enter Try.func19, Try.ntmps19
              go_wp2_with (first
                | (go_at_call 14; (with_reducible refine (k1 _).mono ?_); rintro e w1 ⟨rfl, rfl⟩)
                | (go_at_call 14; (with_reducible refine (k2 _).mono ?_); rintro e w1 ⟨rfl, rfl⟩)
                | (go_at_call 14; (with_reducible refine (k3 _).mono ?_); rintro e w1 ⟨rfl, rfl⟩)
                | (go_at_call 10; (with_reducible refine (c1 _).mono ?_); rintro e w1 ⟨rfl, rfl⟩)
                | (go_at_call 10; (with_reducible refine (c2 _).mono ?_); rintro e w1 ⟨rfl, rfl⟩)
                | (go_at_call 10; (with_reducible refine (c3 _).mono ?_); rintro e w1 ⟨rfl, rfl⟩))
              go_ret
              exact ⟨rfl, rfl⟩

set_option maxHeartbeats 800000 in
theorem refClamp_any (x lo hi : Nat) (hx : x < 18446744073709551616) (hl : lo < 18446744073709551616) (hh : hi < 18446744073709551616) (w : World) : Calls Try.prog 20 #[F64 x, F64 lo, F64 hi] w fun e w' => e = .returned (F64 (clampF x lo hi)) ∧ w' = w := by
  have kx := kind_zero (x := x)
  have kl := kind_zero (x := lo)
  have kh := kind_zero (x := hi)
  have c1 := refCompare_any lo hi hl hh
  have c2 := refCompare_any x lo hx hl
  have c3 := refCompare_any x hi hx hh
  have b1 := cmpI_cases (key lo) (key hi)
  have b2 := cmpI_cases (key x) (key lo)
  have b3 := cmpI_cases (key x) (key hi)
  have k1 := refKind_any x
  have k2 := refKind_any lo
  have k3 := refKind_any hi
  unfold clampF
  simp only [← kx, ← kl, ← kh]
  clear kx kl kh
  generalize kindI x = a at *
  generalize kindI lo = b at *
  generalize kindI hi = c at *
  generalize key x = p at *
  generalize key lo = q at *
  generalize key hi = r at *
  generalize cmpI q r = d at *
  generalize cmpI p q = e at *
  generalize cmpI p r = f at *
  by_cases ha : a = 0
  · subst ha
    rw [if_pos (.inl rfl)]
    clear b1 b2 b3
    go_enter Try.func20, Try.ntmps20
    go_wp2_with (first
      | (go_at_call 16; (with_reducible refine (k1 _).mono ?_); rintro e w1 ⟨rfl, rfl⟩)
      | (go_at_call 16; (with_reducible refine (k2 _).mono ?_); rintro e w1 ⟨rfl, rfl⟩)
      | (go_at_call 16; (with_reducible refine (k3 _).mono ?_); rintro e w1 ⟨rfl, rfl⟩)
      | (go_at_call 17; (with_reducible refine (c1 _).mono ?_); rintro e w1 ⟨rfl, rfl⟩)
      | (go_at_call 17; (with_reducible refine (c2 _).mono ?_); rintro e w1 ⟨rfl, rfl⟩)
      | (go_at_call 17; (with_reducible refine (c3 _).mono ?_); rintro e w1 ⟨rfl, rfl⟩))
    go_ret
    exact ⟨rfl, rfl⟩
  · have ha' : (a == 0) = false := by simpa using ha
    by_cases hb : b = 0
    · subst hb
      rw [if_pos (.inr (.inl rfl))]
      clear b1 b2 b3
      by_cases hc : c = 0
      · subst hc
        go_enter Try.func20, Try.ntmps20
        go_wp2_with (first
          | (go_at_call 16; (with_reducible refine (k1 _).mono ?_); rintro e w1 ⟨rfl, rfl⟩)
          | (go_at_call 16; (with_reducible refine (k2 _).mono ?_); rintro e w1 ⟨rfl, rfl⟩)
          | (go_at_call 16; (with_reducible refine (k3 _).mono ?_); rintro e w1 ⟨rfl, rfl⟩)
          | (go_at_call 17; (with_reducible refine (c1 _).mono ?_); rintro e w1 ⟨rfl, rfl⟩)
          | (go_at_call 17; (with_reducible refine (c2 _).mono ?_); rintro e w1 ⟨rfl, rfl⟩)
          | (go_at_call 17; (with_reducible refine (c3 _).mono ?_); rintro e w1 ⟨rfl, rfl⟩))
        go_ret
        exact ⟨rfl, rfl⟩
      · have hc' : (c == 0) = false := by simpa using hc
        go_enter Try.func20, Try.ntmps20
        go_wp2_with (first
          | (go_at_call 16; (with_reducible refine (k1 _).mono ?_); rintro e w1 ⟨rfl, rfl⟩)
          | (go_at_call 16; (with_reducible refine (k2 _).mono ?_); rintro e w1 ⟨rfl, rfl⟩)
          | (go_at_call 16; (with_reducible refine (k3 _).mono ?_); rintro e w1 ⟨rfl, rfl⟩)
          | (go_at_call 17; (with_reducible refine (c1 _).mono ?_); rintro e w1 ⟨rfl, rfl⟩)
          | (go_at_call 17; (with_reducible refine (c2 _).mono ?_); rintro e w1 ⟨rfl, rfl⟩)
          | (go_at_call 17; (with_reducible refine (c3 _).mono ?_); rintro e w1 ⟨rfl, rfl⟩))
        go_ret
        exact ⟨rfl, rfl⟩
    · have hb' : (b == 0) = false := by simpa using hb
      by_cases hc : c = 0
      · subst hc
        rw [if_pos (.inr (.inr rfl))]
        clear b1 b2 b3
        go_enter Try.func20, Try.ntmps20
        go_wp2_with (first
          | (go_at_call 16; (with_reducible refine (k1 _).mono ?_); rintro e w1 ⟨rfl, rfl⟩)
          | (go_at_call 16; (with_reducible refine (k2 _).mono ?_); rintro e w1 ⟨rfl, rfl⟩)
          | (go_at_call 16; (with_reducible refine (k3 _).mono ?_); rintro e w1 ⟨rfl, rfl⟩)
          | (go_at_call 17; (with_reducible refine (c1 _).mono ?_); rintro e w1 ⟨rfl, rfl⟩)
          | (go_at_call 17; (with_reducible refine (c2 _).mono ?_); rintro e w1 ⟨rfl, rfl⟩)
          | (go_at_call 17; (with_reducible refine (c3 _).mono ?_); rintro e w1 ⟨rfl, rfl⟩))
        go_ret
        exact ⟨rfl, rfl⟩
      · have hc' : (c == 0) = false := by simpa using hc
        rw [if_neg (by simp [ha, hb, hc])]
        by_cases hd : r < q
        · rw [if_pos (.inl hd)]
          have hd' : decide (0 < d) = true := decide_eq_true (by omega)
          clear b1 b2 b3
          go_enter Try.func20, Try.ntmps20
          go_wp2_with (first
            | (go_at_call 16; (with_reducible refine (k1 _).mono ?_); rintro e w1 ⟨rfl, rfl⟩)
            | (go_at_call 16; (with_reducible refine (k2 _).mono ?_); rintro e w1 ⟨rfl, rfl⟩)
            | (go_at_call 16; (with_reducible refine (k3 _).mono ?_); rintro e w1 ⟨rfl, rfl⟩)
            | (go_at_call 17; (with_reducible refine (c1 _).mono ?_); rintro e w1 ⟨rfl, rfl⟩)
            | (go_at_call 17; (with_reducible refine (c2 _).mono ?_); rintro e w1 ⟨rfl, rfl⟩)
            | (go_at_call 17; (with_reducible refine (c3 _).mono ?_); rintro e w1 ⟨rfl, rfl⟩))
          go_ret
          exact ⟨rfl, rfl⟩
        · have hd' : decide (0 < d) = false := decide_eq_false (by omega)
          by_cases he : p < q
          · rw [if_pos (.inr he)]
            have he' : decide (e < 0) = true := decide_eq_true (by omega)
            clear b1 b2 b3
            go_enter Try.func20, Try.ntmps20
            go_wp2_with (first
              | (go_at_call 16; (with_reducible refine (k1 _).mono ?_); rintro e w1 ⟨rfl, rfl⟩)
              | (go_at_call 16; (with_reducible refine (k2 _).mono ?_); rintro e w1 ⟨rfl, rfl⟩)
              | (go_at_call 16; (with_reducible refine (k3 _).mono ?_); rintro e w1 ⟨rfl, rfl⟩)
              | (go_at_call 17; (with_reducible refine (c1 _).mono ?_); rintro e w1 ⟨rfl, rfl⟩)
              | (go_at_call 17; (with_reducible refine (c2 _).mono ?_); rintro e w1 ⟨rfl, rfl⟩)
              | (go_at_call 17; (with_reducible refine (c3 _).mono ?_); rintro e w1 ⟨rfl, rfl⟩))
            go_ret
            exact ⟨rfl, rfl⟩
          · have he' : decide (e < 0) = false := decide_eq_false (by omega)
            rw [if_neg (by simp [hd, he])]
            by_cases hf : r < p
            · rw [if_pos hf]
              have hf' : decide (0 < f) = true := decide_eq_true (by omega)
              have hff : 0 < f := by omega
              clear b1 b2 b3
              go_enter Try.func20, Try.ntmps20
              go_wp2_with (first
                | (go_at_call 16; (with_reducible refine (k1 _).mono ?_); rintro e w1 ⟨rfl, rfl⟩)
                | (go_at_call 16; (with_reducible refine (k2 _).mono ?_); rintro e w1 ⟨rfl, rfl⟩)
                | (go_at_call 16; (with_reducible refine (k3 _).mono ?_); rintro e w1 ⟨rfl, rfl⟩)
                | (go_at_call 17; (with_reducible refine (c1 _).mono ?_); rintro e w1 ⟨rfl, rfl⟩)
                | (go_at_call 17; (with_reducible refine (c2 _).mono ?_); rintro e w1 ⟨rfl, rfl⟩)
                | (go_at_call 17; (with_reducible refine (c3 _).mono ?_); rintro e w1 ⟨rfl, rfl⟩))
              go_ret
              exact ⟨rfl, rfl⟩
            · rw [if_neg hf]
              have hf' : decide (0 < f) = false := decide_eq_false (by omega)
              have hff : ¬ 0 < f := by omega
              clear b1 b2 b3
              go_enter Try.func20, Try.ntmps20
              go_wp2_with (first
                | (go_at_call 16; (with_reducible refine (k1 _).mono ?_); rintro e w1 ⟨rfl, rfl⟩)
                | (go_at_call 16; (with_reducible refine (k2 _).mono ?_); rintro e w1 ⟨rfl, rfl⟩)
                | (go_at_call 16; (with_reducible refine (k3 _).mono ?_); rintro e w1 ⟨rfl, rfl⟩)
                | (go_at_call 17; (with_reducible refine (c1 _).mono ?_); rintro e w1 ⟨rfl, rfl⟩)
                | (go_at_call 17; (with_reducible refine (c2 _).mono ?_); rintro e w1 ⟨rfl, rfl⟩)
                | (go_at_call 17; (with_reducible refine (c3 _).mono ?_); rintro e w1 ⟨rfl, rfl⟩))
              go_ret
              exact ⟨rfl, rfl⟩
end Go.Proofs.Ytngglkefhinkgab

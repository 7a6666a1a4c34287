/- The walk of the law EdgeMost. -/
import Derived.Test.YtngglkefhinkgabEdgeMo
import Derived.Deep.CutBlock
namespace Go.Proofs.Ytngglkefhinkgab
open Go.RowKit Fl

theorem Row.below {w w' : World} {ao : Option Addr} {n : Nat} {X : Nat → Nat} (h : Row w ao n X) (hb : Below w.heap.size w w') : Row w' ao n X :=
  ⟨fun j hj => let ⟨b, off, e, hc⟩ := h.1 j hj; ⟨b, off, e, keepF hb _ _ _ hc⟩, h.2⟩
set_option maxHeartbeats 400000 in
theorem few_any (ao : Option Addr) (n cap : Nat) (w : World) : Calls Try.prog 23 #[.slice ao n cap] w fun e w' => e = .returned (.bool (decide ((n : Int) ≤ 200))) ∧ w' = w := by
  go_enter Try.func23, Try.ntmps23
  go_wp2
  go_ret
  exact ⟨rfl, rfl⟩

set_option maxRecDepth 100000 in
set_option maxHeartbeats 4000000 in
theorem edgeMost_any (ao : Option Addr) (n cap : Nat) (X : Nat → Nat) (x0 x1 x2 : Nat) (w : World) (hn : (n : Int) ≤ 9223372036854775807) (hr0 : Row w ao n X)
    (h0 : x0 < 18446744073709551616) (h1 : x1 < 18446744073709551616) (h2 : x2 < 18446744073709551616) :
    Calls Try.prog 7 #[.slice ao n cap, .agg #[F64 x0, F64 x1, F64 x2]] w fun e w' => e = .returned (.bool true) ∧ Below w.heap.size w w' := by
  have hbl : Below w.heap.size w (w.alloc (.cells #[F64 x0, F64 x1, F64 x2] 23)) := (Below.refl _ _).alloc (Nat.le_refl _) _
  have hc := rowCells (heap_alloc_new w (.cells #[F64 x0, F64 x1, F64 x2] 23))
  by_cases hlong : (n : Int) ≤ 200
  · have hm := max_any ao n cap X
    have hmlt : (if n = 0 then 0 else mxF X n) < 18446744073709551616 := by
      split
      · omega
      · exact mxF_lt hr0.2 _
    have hge : ∀ j, j < n → key (X j) ≤ key (if n = 0 then 0 else mxF X n) := fun j hj => by
      rw [if_neg (by omega)]; exact (mxF_ge X n).2 j hj
    have hin : inB X (if n = 0 then 0 else mxF X n) n = decide (n ≠ 0) := by
      by_cases h : n = 0
      · subst h; rfl
      · rw [if_neg h, inB_mx h, decide_eq_true h]
    generalize (if n = 0 then 0 else mxF X n) = m at *
    generalize hok : decide (n ≠ 0) = ok at *
    have hcl := clamp_any x0 x1 x2 h0 h1 h2
    have hclt := clamp_lt h0 h1 h2
    obtain ⟨cf1, cf2, cf3⟩ := clamp_facts x0 x1 x2
    generalize clampF x0 x1 x2 = c at *
    clear hok
    go_enter Try.func7, Try.ntmps7
    go_upto_region 5 with (first
      | (go_at_call 9; refine (awake1 _).mono ?_; rintro e w1 ⟨rfl, rfl⟩)
      | (go_at_call 23; refine (few_any _ _ _ _).mono ?_; rintro e w1 ⟨rfl, rfl⟩))
    have hr := hr0.below hbl
    clear hr0
    generalize (w.alloc (.cells #[F64 x0, F64 x1, F64 x2] 23)) = W at *
    generalize hB : w.heap.size = B at *
    have q0 : W.cell? ⟨B, 0, .none⟩ = some (F64 x0) := hc 0
    have q1 : W.cell? ⟨B, 1, .none⟩ = some (F64 x1) := hc 1
    have q2 : W.cell? ⟨B, 2, .none⟩ = some (F64 x2) := hc 2
    clear hc
    have hin := Lib.hid hin
    have hn' := Lib.hid hn
    go_wp2_with (go_at_call 24; refine (hm _ hn'.out hr).mono ?_; rintro e w1 ⟨rfl, hw⟩; obtain rfl := hw.symm)
    clear hm
    go_loop [7, 8] (fun v7 v8 => ∃ i : Nat, i ≤ n ∧ v8 = .int .i64 i ∧ v7 = .bool (inB X m i)) (fun _ v8 => n - (intOf v8).toNat)
    case atStart => exact ⟨0, Nat.zero_le _, rfl, rfl⟩
    case round =>
      obtain ⟨i, hi, rfl, rfl⟩ := hrel
      by_cases hlt : i < n
      · have hil : (i : Int) < (n : Int) := by omega
        obtain ⟨b, off, rfl, ci⟩ := hr.1 i hlt
        have hs := lawSame_any (X i) m (hr.2 _) hmlt
        have hcm := compare_any (X i) m (hr.2 _) hmlt
        have hbd := cmpI_cases (key (X i)) (key m)
        have hg := hge i hlt
        have hnext : inB X m (i + 1) = (inB X m i || decide (key (X i) = key m)) := rfl
        generalize inB X m i = u at *
        generalize decide (key (X i) = key m) = v at *
        generalize cmpI (key (X i)) (key m) = d at *
        have hd : ¬ 0 < d := by omega
        have hnext := Lib.hid hnext
        clear hbd hg hge hin cf1 cf2 cf3
        cases u
        · go_wp2_with (first
            | (go_at_call 15; refine (hs _).mono ?_; rintro e w1 ⟨rfl, rfl⟩)
            | (go_at_call 10; refine (hcm _).mono ?_; rintro e w1 ⟨rfl, rfl⟩))
          go_round
          case rel => exact ⟨i + 1, by omega, by go_num, by rw [hnext.out]; simp⟩
          case measure => simp [intOf]; omega
        · go_wp2_with (first
            | (go_at_call 15; refine (hs _).mono ?_; rintro e w1 ⟨rfl, rfl⟩)
            | (go_at_call 10; refine (hcm _).mono ?_; rintro e w1 ⟨rfl, rfl⟩))
          go_round
          case rel => exact ⟨i + 1, by omega, by go_num, by rw [hnext.out]; simp⟩
          case measure => simp [intOf]; omega
      · have hil : ¬ (i : Int) < (n : Int) := by omega
        obtain rfl : i = n := by omega
        rw [hin.out]
        clear hin hge hr
        have hok : (ok == ok) = true := beq_self_eq_true ok
        have s0 := lawSame_any c x0 hclt h0
        have s1 := lawSame_any c x1 hclt h1
        have s2 := lawSame_any c x2 hclt h2
        have k1 := kind_any x1
        have k2 := kind_any x2
        have c1 := compare_any x1 x2 h1 h2
        have c2 := compare_any c x1 hclt h1
        have c3 := compare_any c x2 hclt h2
        have z1 := kind_zero (x := x1)
        have z2 := kind_zero (x := x2)
        have b1 := cmpI_cases (key x1) (key x2)
        have b2 := cmpI_cases (key c) (key x1)
        have b3 := cmpI_cases (key c) (key x2)
        go_upto_region 14 with (go_at_call 19; refine (hcl _).mono ?_; rintro e w1 ⟨rfl, hw⟩; obtain rfl := hw.symm)
        go_cut [10] (fun s wx => s = .bool true ∧ wx = W)
        case first =>
          by_cases e0 : key c = key x0
          · rw [decide_eq_true e0] at s0
            clear b1 b2 b3 z1 z2 cf1 cf2 cf3 e0
            go_wp2_with (first
              | (go_at_call 15; (with_reducible refine (s0 _).mono ?_); rintro e w1 ⟨rfl, rfl⟩)
              | (go_at_call 15; (with_reducible refine (s1 _).mono ?_); rintro e w1 ⟨rfl, rfl⟩)
              | (go_at_call 15; (with_reducible refine (s2 _).mono ?_); rintro e w1 ⟨rfl, rfl⟩))
            go_meet
            exact ⟨rfl, rfl⟩
          · rw [decide_eq_false e0] at s0
            by_cases e1 : key c = key x1
            · rw [decide_eq_true e1] at s1
              clear b1 b2 b3 z1 z2 cf1 cf2 cf3 e0 e1
              go_wp2_with (first
                | (go_at_call 15; (with_reducible refine (s0 _).mono ?_); rintro e w1 ⟨rfl, rfl⟩)
                | (go_at_call 15; (with_reducible refine (s1 _).mono ?_); rintro e w1 ⟨rfl, rfl⟩)
                | (go_at_call 15; (with_reducible refine (s2 _).mono ?_); rintro e w1 ⟨rfl, rfl⟩))
              go_meet
              exact ⟨rfl, rfl⟩
            · rw [decide_eq_false e1] at s1
              rw [decide_eq_true (show key c = key x2 by omega)] at s2
              clear b1 b2 b3 z1 z2 cf1 cf2 cf3 e0 e1
              go_wp2_with (first
                | (go_at_call 15; (with_reducible refine (s0 _).mono ?_); rintro e w1 ⟨rfl, rfl⟩)
                | (go_at_call 15; (with_reducible refine (s1 _).mono ?_); rintro e w1 ⟨rfl, rfl⟩)
                | (go_at_call 15; (with_reducible refine (s2 _).mono ?_); rintro e w1 ⟨rfl, rfl⟩))
              go_meet
              exact ⟨rfl, rfl⟩
        case rest =>
        obtain ⟨rfl, hw⟩ := hcut
        obtain rfl := hw.symm
        clear s0 s2
        go_upto_region 15 with fail
        go_cut [11] (fun s wx => s = .bool (decide (¬ kindI x1 = 0 ∧ ¬ kindI x2 = 0 ∧ cmpI (key x1) (key x2) ≤ 0)) ∧ wx = W)
        case first =>
          clear b1 b2 b3 z1 z2 cf1 cf2 cf3 s1 c2 c3 hcl
          generalize kindI x1 = u1 at *
          generalize kindI x2 = u2 at *
          generalize cmpI (key x1) (key x2) = d at *
          by_cases e1 : u1 = 0
          · subst e1
            go_wp2_with (first
              | (go_at_call 14; (with_reducible refine (k1 _).mono ?_); rintro e w1 ⟨rfl, rfl⟩)
              | (go_at_call 14; (with_reducible refine (k2 _).mono ?_); rintro e w1 ⟨rfl, rfl⟩))
            go_meet
            exact ⟨by simp, rfl⟩
          · have n1 : (u1 != 0) = true := by simpa using e1
            by_cases e2 : u2 = 0
            · subst e2
              go_wp2_with (first
                | (go_at_call 14; (with_reducible refine (k1 _).mono ?_); rintro e w1 ⟨rfl, rfl⟩)
                | (go_at_call 14; (with_reducible refine (k2 _).mono ?_); rintro e w1 ⟨rfl, rfl⟩))
              go_meet
              exact ⟨by simp, rfl⟩
            · have n2 : (u2 != 0) = true := by simpa using e2
              go_wp2_with (first
                | (go_at_call 14; (with_reducible refine (k1 _).mono ?_); rintro e w1 ⟨rfl, rfl⟩)
                | (go_at_call 14; (with_reducible refine (k2 _).mono ?_); rintro e w1 ⟨rfl, rfl⟩)
                | (go_at_call 10; refine (c1 _).mono ?_; rintro e w1 ⟨rfl, rfl⟩))
              go_meet
              exact ⟨by simp [e1, e2], rfl⟩
        case rest =>
        obtain ⟨rfl, hw⟩ := hcut
        obtain rfl := hw.symm
        have nn1 : ∀ {x : Nat}, ¬ nan x = true → nan x = false := fun h => by simpa using h
        by_cases hf : ¬ kindI x1 = 0 ∧ ¬ kindI x2 = 0 ∧ cmpI (key x1) (key x2) ≤ 0
        · rw [decide_eq_true hf]
          obtain ⟨f1, f2⟩ := cf2 (nn1 (fun h => hf.1 (z1.2 h))) (nn1 (fun h => hf.2.1 (z2.2 h))) (by omega)
          have d1 : (0 : Int) ≤ cmpI (key c) (key x1) := by omega
          have d2 : cmpI (key c) (key x2) ≤ 0 := by omega
          clear b1 b2 b3 z1 z2 cf1 cf2 cf3 hf f1 f2
          generalize cmpI (key c) (key x1) = p at *
          generalize cmpI (key c) (key x2) = q at *
          have dd1 : decide ((0 : Int) ≤ p) = true := decide_eq_true d1
          have dd2 : decide (q ≤ 0) = true := decide_eq_true d2
          go_wp2_with (first
            | (go_at_call 15; refine (s1 _).mono ?_; rintro e w1 ⟨rfl, rfl⟩)
            | (go_at_call 10; (with_reducible refine (c2 _).mono ?_); rintro e w1 ⟨rfl, rfl⟩)
            | (go_at_call 10; (with_reducible refine (c3 _).mono ?_); rintro e w1 ⟨rfl, rfl⟩))
          go_ret
          exact ⟨rfl, by rw [hB]; exact hbl⟩
        · rw [decide_eq_false hf]
          have e1 : key c = key x1 := by
            apply cf3
            by_cases u1 : nan x1 = true
            · exact .inl u1
            · by_cases u2 : nan x2 = true
              · exact .inr (.inl u2)
              · right; right
                have : ¬ cmpI (key x1) (key x2) ≤ 0 := fun h => hf ⟨fun h => u1 (z1.1 h), fun h => u2 (z2.1 h), h⟩
                omega
          rw [decide_eq_true e1] at s1
          clear b1 b2 b3 z1 z2 cf1 cf2 cf3 hf e1
          go_wp2_with (first
            | (go_at_call 15; refine (s1 _).mono ?_; rintro e w1 ⟨rfl, rfl⟩)
            | (go_at_call 10; (with_reducible refine (c2 _).mono ?_); rintro e w1 ⟨rfl, rfl⟩)
            | (go_at_call 10; (with_reducible refine (c3 _).mono ?_); rintro e w1 ⟨rfl, rfl⟩))
          go_ret
          exact ⟨rfl, by rw [hB]; exact hbl⟩
  · clear hr0 hn
    have hd : decide ((n : Int) ≤ 200) = false := decide_eq_false hlong
    go_enter Try.func7, Try.ntmps7
    go_wp2_with (first
      | (go_at_call 9; refine (awake1 _).mono ?_; rintro e w1 ⟨rfl, rfl⟩)
      | (go_at_call 23; refine (few_any _ _ _ _).mono ?_; rintro e w1 ⟨rfl, rfl⟩))
    go_ret
    exact ⟨rfl, hbl⟩
end Go.Proofs.Ytngglkefhinkgab

/- The walk of the law EdgeOrder. -/
import Derived.Test.YtngglkefhinkgabEdgeA
import Derived.Deep.CutBlock
namespace Go.Proofs.Ytngglkefhinkgab
open Go.RowKit Fl

theorem cmpI_bd (a b : Int) : cmpI a b = -1 ∧ a < b ∨ cmpI a b = 0 ∧ a = b ∨ cmpI a b = 1 ∧ b < a := by
  unfold cmpI
  split
  · omega
  · split <;> omega
/-- Three floats, in a block of their own. -/
def Three (w : World) (B : Nat) (X : Nat → Nat) (wr : World) : Prop := (∀ k, k < 3 → wr.cell? ⟨B, k, .none⟩ = some (F64 (X k))) ∧ Below w.heap.size w wr
theorem Three.drew {w : World} {B : Nat} {X : Nat → Nat} {wr : World} (h : Three w B X wr) (n : Nat) : Three w B X (wr.drewN n) := ⟨h.1, below_drewN h.2 n⟩

set_option maxRecDepth 100000 in
set_option maxHeartbeats 8000000 in
theorem edgeOrder_any (x0 x1 x2 : Nat) (w : World) (h0 : x0 < 18446744073709551616) (h1 : x1 < 18446744073709551616) (h2 : x2 < 18446744073709551616) :
    Calls Try.prog 3 #[.agg #[F64 x0, F64 x1, F64 x2]] w fun e w' => e = .returned (.bool true) ∧ Below w.heap.size w w' := by
  obtain ⟨X, hX⟩ : ∃ X : Nat → Nat, X = fun k => [x0, x1, x2].getD k 0 := ⟨_, rfl⟩
  have hXb : ∀ k, k < 3 → X k < 18446744073709551616 := by
    intro k hk
    have : k = 0 ∨ k = 1 ∨ k = 2 := by omega
    rcases this with rfl | rfl | rfl <;> rw [hX] <;> assumption
  have hcell : Three w w.heap.size X (w.alloc (.cells #[F64 x0, F64 x1, F64 x2] 23)) := by
    refine ⟨fun k hk => ?_, (Below.refl _ _).alloc (Nat.le_refl _) _⟩
    rw [rowCells (heap_alloc_new w _) k, hX]
    have : k = 0 ∨ k = 1 ∨ k = 2 := by omega
    rcases this with rfl | rfl | rfl <;> rfl
  have hC : ∀ i j, i < 3 → j < 3 → ∀ w, Calls Try.prog 10 #[F64 (X i), F64 (X j)] w fun e w' => e = .returned (.int .i64 (cmpI (key (X i)) (key (X j)))) ∧ w' = w := fun i j hi hj w => compare_any _ _ (hXb i hi) (hXb j hj) w
  have hS : ∀ i j, i < 3 → j < 3 → ∀ w, Calls Try.prog 11 #[F64 (X i), F64 (X j)] w fun e w' => e = .returned (.bool (decide (key (X i) = key (X j)))) ∧ w' = w := fun i j hi hj w => same_any _ _ (hXb i hi) (hXb j hj) w
  clear hX h0 h1 h2
  go_enter Try.func3, Try.ntmps3
  go_upto_region 3 with (go_at_call 9; refine (awake1 _).mono ?_; rintro e w1 ⟨rfl, rfl⟩)
  generalize (w.alloc (.cells #[F64 x0, F64 x1, F64 x2] 23)) = W at *
  obtain ⟨B, hB⟩ : ∃ B, w.heap.size = B := ⟨_, rfl⟩
  rw [hB] at hcell ⊢
  clear hB
  go_wp2_with fail
  go_loopw [3] (fun v3 wr => ∃ i : Nat, i ≤ 3 ∧ v3 = .int .i64 i ∧ Three w B X wr) (fun v3 _ => 3 - (intOf v3).toNat)
  case atStart => exact ⟨0, Nat.zero_le _, rfl, hcell⟩
  case round =>
    obtain ⟨i, hi, rfl, hT⟩ := hrel
    clear hcell W
    by_cases hlt : i < 3
    · have hil : (i : Int) < 3 := by omega
      have hi0 : (0 : Int) ≤ (i : Int) := by omega
      obtain ⟨wo, rfl⟩ : ∃ wo : World, wo = wr := ⟨_, rfl⟩
      go_wp2_with fail
      go_loopw [4] (fun v4 wr => ∃ j : Nat, j ≤ 3 ∧ v4 = .int .i64 j ∧ Three w B X wr) (fun v4 _ => 3 - (intOf v4).toNat)
      case atStart => exact ⟨0, Nat.zero_le _, rfl, hT⟩
      case round =>
        obtain ⟨j, hj, rfl, hT⟩ := hrel
        by_cases hjt : j < 3
        · have hjl : (j : Int) < 3 := by omega
          have hj0 : (0 : Int) ≤ (j : Int) := by omega
          have ci := hT.1 i hlt
          have cj := hT.1 j hjt
          go_upto_region 9 with fail
          go_quiet ((go_at_call 10; exact Calls.quiet_of_same (hC i j hlt hjt _)))
          have hT1 := hT.drew nq
          generalize wr.drewN nq = w2 at *
          have ci := hT1.1 i hlt
          have cj := hT1.1 j hjt
          go_upto_region 10 with fail
          go_cut [5, 67] (fun s5 s wx => s5 = .int .i64 (cmpI (key (X i)) (key (X j))) ∧ s = .bool false ∧ Three w B X wx)
          case first =>
            have hji := hC j i hjt hlt
            have hs := hS i j hlt hjt
            have hl := ltxy (X i) (X j)
            have hlk : ltB (X i) (X j) = true → key (X i) < key (X j) := fun h => by
              unfold ltB at h
              simp only [Bool.and_eq_true, Bool.not_eq_true', decide_eq_true_eq] at h
              exact iv_key h.1.1 h.1.2 h.2
            have hkk : i = j → key (X i) = key (X j) := fun e => by rw [e]
            generalize key (X i) = p at *
            generalize key (X j) = q at *
            rcases cmpI_bd p q with ⟨ha, hpq⟩ | ⟨ha, hpq⟩ | ⟨ha, hpq⟩
            · have hb : cmpI q p = 1 := by unfold cmpI; rw [if_neg (by omega), if_pos hpq]
              have hd : decide (p = q) = false := decide_eq_false (by omega)
              have hne : ((i : Int) == (j : Int)) = false := by rw [beq_eq_false_iff_ne]; intro e; have := hkk (by omega); omega
              rw [ha]
              rw [hb] at hji
              rw [hd] at hs
              have Ha := Lib.hid ha
              clear ha hb hd hkk hlk
              cases hlt2 : ltB (X i) (X j)
              all_goals
                rw [hlt2] at hl
                clear hlt2
                go_quiet ((first
                  | (go_at_call 10; exact Calls.quiet_of_same (hji _))
                  | (go_at_call 11; exact Calls.quiet_of_same (hs _))))
                go_wp2_with fail
                go_meet
                exact ⟨by rw [Ha.out], rfl, hT1.drew _⟩
            · have hb : cmpI q p = 0 := by unfold cmpI; rw [if_neg (by omega), if_neg (by omega)]
              have hd : decide (p = q) = true := decide_eq_true hpq
              have hlt2 : ltB (X i) (X j) = false := by
                cases h : ltB (X i) (X j)
                · rfl
                · have := hlk h; omega
              rw [ha]
              rw [hb] at hji
              rw [hd] at hs
              rw [hlt2] at hl
              have Ha := Lib.hid ha
              clear ha hb hd hkk hlk hlt2
              by_cases hij : i = j
              all_goals
                (first | (have hne : ((i : Int) == (j : Int)) = true := (by rw [beq_iff_eq]; omega)) | (have hne : ((i : Int) == (j : Int)) = false := (by rw [beq_eq_false_iff_ne]; omega)))
                clear hij
                go_quiet ((first
                  | (go_at_call 10; exact Calls.quiet_of_same (hji _))
                  | (go_at_call 11; exact Calls.quiet_of_same (hs _))))
                go_wp2_with fail
                go_meet
                exact ⟨by rw [Ha.out], rfl, hT1.drew _⟩
            · have hb : cmpI q p = -1 := by unfold cmpI; rw [if_pos hpq]
              have hd : decide (p = q) = false := decide_eq_false (by omega)
              have hne : ((i : Int) == (j : Int)) = false := by rw [beq_eq_false_iff_ne]; intro e; have := hkk (by omega); omega
              have hlt2 : ltB (X i) (X j) = false := by
                cases h : ltB (X i) (X j)
                · rfl
                · have := hlk h; omega
              rw [ha]
              rw [hb] at hji
              rw [hd] at hs
              rw [hlt2] at hl
              have Ha := Lib.hid ha
              clear ha hb hd hkk hlk hlt2
              go_quiet ((first
                | (go_at_call 10; exact Calls.quiet_of_same (hji _))
                | (go_at_call 11; exact Calls.quiet_of_same (hs _))))
              go_wp2_with fail
              go_meet
              exact ⟨by rw [Ha.out], rfl, hT1.drew _⟩
          case rest =>
            obtain ⟨rfl, rfl, hT2⟩ := hcut
            clear ci cj hT hT1
            obtain ⟨wo, rfl⟩ : ∃ wo : World, wo = wc := ⟨_, rfl⟩
            go_wp2_with fail
            go_loopw [6] (fun v6 wr => ∃ k : Nat, k ≤ 3 ∧ v6 = .int .i64 k ∧ Three w B X wr) (fun v6 _ => 3 - (intOf v6).toNat)
            case atStart => exact ⟨0, Nat.zero_le _, rfl, hT2⟩
            case round =>
              obtain ⟨k, hk, rfl, hT⟩ := hrel
              by_cases hkt : k < 3
              · have hkl : (k : Int) < 3 := by omega
                have hk0 : (0 : Int) ≤ (k : Int) := by omega
                have ci := hT.1 i hlt
                have cj := hT.1 j hjt
                have ck := hT.1 k hkt
                go_upto_region 15 with fail
                go_cut [93] (fun s wx => s = .bool false ∧ Three w B X wx)
                case first =>
                  have hjk := hC j k hjt hkt
                  have hik := hC i k hlt hkt
                  generalize key (X i) = p at *
                  generalize key (X j) = q at *
                  generalize key (X k) = r at *
                  have tr : cmpI p q ≤ 0 → cmpI q r ≤ 0 → cmpI p r ≤ 0 := by
                    have a := cmpI_bd p q
                    have b := cmpI_bd q r
                    have c := cmpI_bd p r
                    omega
                  generalize cmpI p q = a at *
                  generalize cmpI q r = b at *
                  generalize cmpI p r = c at *
                  by_cases ha : a ≤ 0
                  · have hda : decide (a ≤ 0) = true := decide_eq_true ha
                    by_cases hb : b ≤ 0
                    · have hdb : decide (b ≤ 0) = true := decide_eq_true hb
                      have hc : ¬ (0 < c) := by have := tr ha hb; omega
                      have hdc : decide (0 < c) = false := decide_eq_false hc
                      clear tr
                      go_quiet ((first
                        | (go_at_call 10; (with_reducible exact Calls.quiet_of_same (hjk _)))
                        | (go_at_call 10; (with_reducible exact Calls.quiet_of_same (hik _)))))
                      go_wp2_with fail
                      go_meet
                      exact ⟨rfl, hT.drew _⟩
                    · have hdb : decide (b ≤ 0) = false := decide_eq_false hb
                      clear tr
                      go_quiet ((first
                        | (go_at_call 10; (with_reducible exact Calls.quiet_of_same (hjk _)))
                        | (go_at_call 10; (with_reducible exact Calls.quiet_of_same (hik _)))))
                      go_wp2_with fail
                      go_meet
                      exact ⟨rfl, hT.drew _⟩
                  · have hda : decide (a ≤ 0) = false := decide_eq_false ha
                    clear tr
                    go_quiet ((first
                      | (go_at_call 10; (with_reducible exact Calls.quiet_of_same (hjk _)))
                      | (go_at_call 10; (with_reducible exact Calls.quiet_of_same (hik _)))))
                    go_wp2_with fail
                    go_meet
                    exact ⟨rfl, hT.drew _⟩
                case rest =>
                  obtain ⟨rfl, hT3⟩ := hcut
                  go_wp2_with fail
                  go_roundw
                  case rel => exact ⟨k + 1, by omega, by go_num, hT3⟩
                  case measure => simp [intOf]; omega
              · have hkl : ¬ (k : Int) < 3 := by omega
                go_wp2_with fail
                go_roundw
                case rel => exact ⟨j + 1, by omega, by go_num, hT⟩
                case measure => simp [intOf]; omega
        · have hjl : ¬ (j : Int) < 3 := by omega
          go_wp2_with fail
          go_roundw
          case rel => exact ⟨i + 1, by omega, by go_num, hT⟩
          case measure => simp [intOf]; omega
    · have hil : ¬ (i : Int) < 3 := by omega
      go_wp2_with fail
      go_ret
      exact ⟨rfl, hT.2⟩
end Go.Proofs.Ytngglkefhinkgab

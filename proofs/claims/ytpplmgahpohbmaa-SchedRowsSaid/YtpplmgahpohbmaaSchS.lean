/- The walks of the reference's Alone, Turns. -/
import Derived.Test.YtpplmgahpohbmaaSchR
import Derived.Deep.CutBlock
namespace Go.Proofs.Ytpplmgahpohbmaa
open Go.RowKit Fl
abbrev OR := OwnC 52

theorem turnsR_one (c k : Int) : turnsR [c] k = if 2000 < k then [] else turnsL [c] k.toNat := by
  unfold turnsR
  have : (2000 : Int) / (([c] : List Int).length : Int) = 2000 := by simp
  rw [this]
  simp

set_option maxHeartbeats 1000000 in
theorem refAlone_any (c k : Int) (w : World) :
    Calls Try.prog 19 #[.int .i64 c, .int .i64 k] w fun e w' => ∃ v', e = .returned v' ∧ Below w.heap.size w w' ∧ OR w.heap.size w' v' (turnsR [c] k) := by
  rw [turnsR_one]
  by_cases h1 : 2000 < k
  · rw [if_pos h1]
    have hd : decide (k ≤ 2000) = false := decide_eq_false (by omega)
    have hd2 : (0 : Int) < k := by omega
    go_enter Try.func19, Try.ntmps19
    go_wp2
    go_loopw [5, 6] (fun v5 v6 wr => v5 = .slice none 0 0 ∧ v6 = .int .i64 0 ∧ wr = w) (fun _ _ _ => 0)
    case atStart => exact ⟨rfl, rfl, rfl⟩
    case round =>
      obtain ⟨rfl, rfl, rfl⟩ := hrel
      go_wp2
      go_ret
      exact ⟨_, rfl, Below.refl _ _, OwnC.nil _ _ _⟩
  · rw [if_neg h1]
    have hd : decide (k ≤ 2000) = true := decide_eq_true (by omega)
    have hkk : k ≤ 2000 := by omega
    go_enter Try.func19, Try.ntmps19
    go_wp2
    go_loopw [5, 6] (fun v5 v6 wr => ∃ i : Nat, i ≤ k.toNat ∧ v6 = .int .i64 i ∧ OR w.heap.size wr v5 (turnsL [c] i) ∧ Below w.heap.size w wr) (fun _ v6 _ => k.toNat - (intOf v6).toNat)
    case atStart => exact ⟨0, Nat.zero_le _, rfl, OwnC.nil _ _ _, Below.refl _ _⟩
    case round =>
      obtain ⟨i, hi, rfl, hown, hbr⟩ := hrel
      by_cases hlt : (i : Int) < k
      · have hlen : (turnsL [c] i).length = i := by rw [turnsL_length]; simp
        have hown' : wr.ownsRow w.heap.size 52 6 u5 i (flatC (turnsL [c] i)) := by
          have h : wr.ownsRow w.heap.size 52 6 u5 (turnsL [c] i).length (flatC (turnsL [c] i)) := hown
          rwa [hlen] at h
        clear hlen hown
        obtain ⟨i0, hi0, hz0, hz1, hz2⟩ := info_parts infoChR
        have hbs := hbr.size
        go_wp2_with (refine wpList_append_rd rfl (.tmp 16) (.tmp 19) 41 rfl w.heap.size 52 i0 _ 6 48 Try.underlying41 hi0 hz0 hz1 hz2 rfl (by omega) _ i (flatC (turnsL [c] i)) rfl (hown'.alloc _) _ 1 (stepC c).cells rfl (RdS.new (cs := (stepC c).cells.toArray) (t := 52) (sz := 6) (n := 1) (heap_alloc_new wr _) rfl (by omega)) (Ch.one _) (by simp only [maxLen]; omega) (by omega) (by simp; omega) ?_; intro v1 w1 hown1 hgrow1 hat1; have hbr1 := grown_belowS (hbr.alloc hbr.size _) (hown'.alloc _) (by simp; omega) hgrow1)
        refine ⟨⟨i + 1, by omega, by go_num, ?_, hbr1⟩, by simp [intOf]; omega⟩
        show w1.ownsRow _ _ 6 _ (turnsL [c] i ++ [stepC c]).length (flatC (turnsL [c] i ++ [stepC c]))
        rw [flatC_append, List.length_append, turnsL_length, show i * ([c] : List Int).length = i from by simp]
        exact hown1
      · have hik : i = k.toNat := by omega
        subst hik
        go_wp2
        go_ret
        exact ⟨_, rfl, hbr, hown⟩

set_option maxHeartbeats 1000000 in
theorem refTurns_any (zs : List Int) (v : Value) (k : Int) (w : World) (hr : RdI w v zs) (hk0 : -9223372036854775808 ≤ k) (hk1 : k ≤ 9223372036854775807) :
    Calls Try.prog 20 #[v, .int .i64 k] w fun e w' => ∃ v', e = .returned v' ∧ Below w.heap.size w w' ∧ OR w.heap.size w' v' (turnsR zs k) := by
  obtain ⟨ao, cap, rfl, hcap, hcm, hrow⟩ := hr
  unfold turnsR
  by_cases h0 : zs = []
  · rw [if_pos (.inl h0)]
    subst h0
    by_cases hk : (0 : Int) < k
    all_goals
      go_enter Try.func20, Try.ntmps20
      go_wp2
      go_loopw [5, 6] (fun v5 v6 wr => v5 = .slice none 0 0 ∧ v6 = .int .i64 0 ∧ wr = w) (fun _ _ _ => 0)
      case atStart => exact ⟨rfl, rfl, rfl⟩
      case round =>
        obtain ⟨rfl, rfl, rfl⟩ := hrel
        go_wp2
        go_ret
        exact ⟨_, rfl, Below.refl _ _, OwnC.nil _ _ _⟩
  · have hl0 : zs.length ≠ 0 := fun h => h0 (List.eq_nil_of_length_eq_zero h)
    have hlp : (1 : Int) ≤ (zs.length : Int) := by omega
    have hlp2 : 0 < zs.length := by omega
    have hlp3 : decide (0 < zs.length) = true := decide_eq_true hlp2
    by_cases h1 : 2000 / (zs.length : Int) < k
    · rw [if_pos (.inr h1)]
      have hd : decide (2000 / (zs.length : Int) < k) = true := decide_eq_true h1
      clear h0 hrow hl0
      go_enter Try.func20, Try.ntmps20
      go_wp2
      go_ret
      exact ⟨_, rfl, Below.refl _ _, OwnC.nil _ _ _⟩
    · rw [if_neg (by simp [h0, h1])]
      have hd : decide (2000 / (zs.length : Int) < k) = false := decide_eq_false h1
      have hmul : k.toNat * zs.length ≤ 2000 := by
        rcases Int.lt_or_le k 0 with hk | hk
        · have : k.toNat = 0 := by omega
          rw [this]; omega
        · have h2 : k ≤ 2000 / (zs.length : Int) := by omega
          have h3 := (Int.le_ediv_iff_mul_le (by omega)).1 h2
          have h4 : (k.toNat : Int) = k := by omega
          have : ((k.toNat * zs.length : Nat) : Int) ≤ 2000 := by rw [Int.natCast_mul, h4]; exact h3
          omega
      obtain ⟨b, off, rfl, hb, hc⟩ := hrow h0
      have hmul := Lib.hid hmul
      have hlN : zs.length ≤ 9223372036854775807 := by omega
      clear h0 h1
      go_enter Try.func20, Try.ntmps20
      go_wp2
      go_loopw [5, 6] (fun v5 v6 wr => ∃ i : Nat, i ≤ k.toNat ∧ v6 = .int .i64 i ∧ OR w.heap.size wr v5 (turnsL zs i) ∧ Below w.heap.size w wr) (fun _ v6 _ => k.toNat - (intOf v6).toNat)
      case atStart => exact ⟨0, Nat.zero_le _, rfl, OwnC.nil _ _ _, Below.refl _ _⟩
      case round =>
        obtain ⟨i, hi, rfl, hown, hbr⟩ := hrel
        by_cases hlt : (i : Int) < k
        · obtain ⟨wo, rfl⟩ : ∃ wo : World, wo = wr := ⟨_, rfl⟩
          go_wp2
          go_loopw [5, 7] (fun v5 v7 wr => ∃ j : Nat, j ≤ zs.length ∧ v7 = .int .i64 j ∧ OR w.heap.size wr v5 (turnsL zs i ++ (zs.take j).map stepC) ∧ Below w.heap.size w wr) (fun _ v7 _ => zs.length - (intOf v7).toNat)
          case atStart => exact ⟨0, Nat.zero_le _, rfl, by simpa using hown, hbr⟩
          case round =>
            obtain ⟨j, hj, rfl, hown, hbr⟩ := hrel
            by_cases hjt : j < zs.length
            · have hjl : (j : Int) < (zs.length : Int) := by omega
              have cj := keepF hbr _ _ _ (hc j hjt)
              have hnx : turnsL zs i ++ (zs.take (j + 1)).map stepC = (turnsL zs i ++ (zs.take j).map stepC) ++ [stepC zs[j]] := by
                rw [List.take_succ_eq_append_getElem hjt, List.map_append, List.append_assoc]; rfl
              have hlen : (turnsL zs i ++ (zs.take j).map stepC).length = i * zs.length + j := by
                rw [List.length_append, turnsL_length, List.length_map, List.length_take]; omega
              have hbound : i * zs.length + j < 2000 := by
                have h1 := Nat.mul_le_mul_right zs.length (show i + 1 ≤ k.toNat by omega)
                have h2 := hmul.out
                rw [Nat.add_mul, Nat.one_mul] at h1
                omega
              have hnx := Lib.hid hnx
              generalize zs[j] = z at *
              generalize hxs : turnsL zs i ++ (zs.take j).map stepC = xs at *
              rw [← hlen] at hbound
              obtain ⟨q, hq, hq'⟩ := nm xs.length
              have ho : wr.ownsRow w.heap.size 52 6 u5 q (flatC xs) := by rw [hq']; exact hown
              rw [← hq'] at hbound
              obtain ⟨i0, hi, hz0, hz1, hz2⟩ := info_parts infoChR
              have hbs := hbr.size
              clear hlen hxs hq' hown
              go_wp2_with (refine wpList_append_rd rfl (.tmp 34) (.tmp 40) 41 rfl w.heap.size 52 i0 _ 6 48 Try.underlying41 hi hz0 hz1 hz2 rfl (by omega) _ q (flatC xs) rfl (ho.alloc _) _ 1 (stepC z).cells rfl (RdS.new (cs := (stepC z).cells.toArray) (t := 52) (sz := 6) (n := 1) (heap_alloc_new wr _) rfl (by omega)) (Ch.one _) (by simp only [maxLen]; omega) (by omega) (by simp; omega) ?_; intro v1 w1 hown1 hgrow1 hat1; have hbr1 := grown_belowS (hbr.alloc hbr.size _) (ho.alloc _) (by simp; omega) hgrow1)
              refine ⟨⟨j + 1, by omega, by go_num, ?_, hbr1⟩, by simp [intOf]; omega⟩
              rw [hnx.out]
              show w1.ownsRow _ _ 6 _ (xs ++ [stepC z]).length (flatC (xs ++ [stepC z]))
              rw [flatC_append, List.length_append, ← hq.out]
              exact hown1
            · have hje : j = zs.length := by omega
              subst hje
              have hj0 : ¬ ((zs.length : Int) < (zs.length : Int)) := by omega
              rw [List.take_length] at hown
              go_wp2
              exact ⟨⟨i + 1, by omega, by go_num, hown, hbr⟩, by simp [intOf]; omega⟩
        · have hik : i = k.toNat := by omega
          subst hik
          go_wp2
          go_ret
          exact ⟨_, rfl, hbr, hown⟩
end Go.Proofs.Ytpplmgahpohbmaa

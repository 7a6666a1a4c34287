/- The mean of floats of which one is a number: the walks of edge.Sum, fill.Mean. -/
import Derived.Test.YtfknaheijidhcaaFilX

namespace Go.Proofs.Ytfknaheijidhcaa

open Go.RowKit Fl

attribute [local go_sem ↓] Go.wp_at_zero Go.wp_at_succ

set_option maxRecDepth 100000 in
set_option maxHeartbeats 1000000 in
theorem sum1_any (x : Nat) (v : Value) (w : World) (hr : RdS w 1 v 1 [F64 x]) (ha : floatBits .add .f64 0 x = some x) :
    Calls Try.prog 60 #[v] w fun e w' => e = .returned (F64 x) ∧ w' = w := by
  obtain ⟨ao, cap, rfl, h1, h2, _, hrow⟩ := hr
  obtain ⟨g, off, rfl, hg, hc⟩ := hrow (by omega)
  have hc0 : w.cell? ⟨g, off, .none⟩ = some (F64 x) := hc 0 (by omega)
  have hc1 : w.cell? ⟨g, off + 0, .none⟩ = some (F64 x) := hc 0 (by omega)
  have hadd := fun w : World => run_float_arith (P := Try.prog) w .add 37 .f64 _ _ _ ha
  clear hc hrow
  go_enter Try.func60, Try.ntmps60
  go_wp2_with fail
  go_loopw [3, 8] (fun va vi wr => (va = F64 0 ∧ vi = .int .i64 0 ∨ va = F64 x ∧ vi = .int .i64 1) ∧ wr = w) (fun _ vi _ => 1 - (intOf vi).toNat)
  case atStart => exact ⟨.inl ⟨rfl, rfl⟩, rfl⟩
  case round =>
    obtain ⟨hv, hw⟩ := hrel
    obtain rfl := hw.symm
    clear hw
    rcases hv with ⟨rfl, rfl⟩ | ⟨rfl, rfl⟩
    · go_wp2
      exact ⟨⟨.inr ⟨rfl, rfl⟩, by first | rfl | trivial⟩, by simp [intOf]⟩
    · go_wp2
      go_ret
      exact ⟨rfl, rfl⟩

set_option maxRecDepth 100000 in
set_option maxHeartbeats 1000000 in
theorem mean1_any (X : Nat → Nat) (k : Nat) (v : Value) (w : World) (hk : k < 4) (hr : RdS w 1 v 4 (flF X 4)) (hn : nan (X k) = false) (ho : ∀ i, i < 4 → i ≠ k → nan (X i) = true) (ha : floatBits .add .f64 0 (X k) = some (X k)) (hd : floatBits .quo .f64 (X k) (floatOfInt .f64 1) = some (X k)) :
    Calls Try.prog 30 #[v] w fun e w' => e = .returned (F64 (X k)) ∧ Below w.heap.size w w' := by
  obtain ⟨i0, hi0, hz0, hz1, hz2⟩ := info_parts infoFl
  obtain ⟨ao, cap, rfl, h1, h2, _, hrow⟩ := hr
  obtain ⟨g, off, rfl, hg, hc⟩ := hrow (by omega)
  replace hc : Hid (∀ (Y : World) i, Below w.heap.size w Y → i < 4 → Y.cell? ⟨g, off + i, .none⟩ = some (F64 (X i))) := Lib.hid fun Y i hY hi => keepF hY _ _ _ ((hc i (by omega)).trans (flF_get X 4 i hi))
  have hquo := fun w : World => run_float_arith (P := Try.prog) w .quo 37 .f64 _ _ _ hd
  replace ho := Lib.hid ho
  clear hrow hd
  go_enter Try.func30, Try.ntmps30
  go_wp2_with fail
  go_loopw [3, 8] (fun vl vi wr => ∃ i : Nat, i ≤ 4 ∧ vi = .int .i64 i ∧ Below w.heap.size w wr ∧ wr.ownsRow w.heap.size 37 1 vl (if i ≤ k then 0 else 1) (if i ≤ k then [] else [F64 (X k)])) (fun _ vi _ => 4 - (intOf vi).toNat)
  case atStart => exact ⟨0, by omega, rfl, Below.refl _ _, by rw [if_pos (Nat.zero_le _), if_pos (Nat.zero_le _)]; exact ⟨rfl, .inl ⟨rfl, rfl⟩⟩⟩
  case round =>
    obtain ⟨i, hi, rfl, hbr, hown⟩ := hrel
    by_cases hlt : (i : Int) < 4
    · have wi1 : IntKind.i64.wrap ((i : Int) + 1) = (i : Int) + 1 := IntWalk.i64_in _ ⟨by omega, by omega⟩
      have hi0' : (0 : Int) ≤ (i : Int) := by omega
      have hci := hc.out wr i hbr (by omega)
      have hkd := fun W => ekind_any (X i) W
      have hkz := kind_zero (x := X i)
      by_cases hik : i = k
      · subst hik
        have hkb : (kindI (X i) != 0) = true := by
          have : kindI (X i) ≠ 0 := fun e => by rw [hkz.1 e] at hn; cases hn
          simpa using this
        rw [if_pos (Nat.le_refl _), if_pos (Nat.le_refl _)] at hown
        replace hkd := Lib.hid hkd
        generalize kindI (X i) = kx at *
        generalize hx : X i = x at *
        clear hkz
        obtain ⟨V, rfl⟩ : ∃ V : World, V = wr := ⟨_, rfl⟩
        have hVs := hbr.size
        go_wp2_with (first
          | (go_at_call 40; refine (hkd.out _).mono ?_; rintro e w3 ⟨rfl, hw⟩; obtain rfl := hw.symm)
          | (refine wpList_append_rd rfl (.tmp 15) (.tmp 17) 34 rfl w.heap.size 37 i0 _ 1 8 Try.underlying34 hi0 hz0 hz1 hz2 rfl (by omega) _ 0 [] rfl (hown.alloc _) _ 1 [F64 x] rfl (RdS.new (cs := #[F64 x]) (t := 37) (sz := 1) (n := 1) (heap_alloc_new V _) rfl (by omega)) (by intro u hu; simp at hu; subst hu; rfl) (by simp only [maxLen]; omega) (by omega) (by simp; omega) ?_; intro v1 w1 hown1 hgrow1 hat1; have hbr4 := grown_belowS (hbr.alloc hVs _) (hown.alloc _) (by simp; omega) hgrow1))
        exact ⟨⟨i + 1, by omega, by go_num, hbr4, by rw [if_neg (by omega), if_neg (by omega)]; exact hown1⟩, by simp [intOf]; omega⟩
      · have hk0 : kindI (X i) = 0 := hkz.2 (ho.out i (by omega) hik)
        rw [hk0] at hkd
        replace hkd := Lib.hid hkd
        clear hkz hk0
        have hle : (i + 1 ≤ k) = (i ≤ k) := by rw [eq_iff_iff]; omega
        go_wp2_with (go_at_call 40; refine (hkd.out _).mono ?_; rintro e w3 ⟨rfl, hw⟩; obtain rfl := hw.symm)
        exact ⟨⟨i + 1, by omega, by go_num, hbr, by simp only [hle]; exact hown⟩, by simp [intOf]; omega⟩
    · have hie : i = 4 := by omega
      subst hie
      rw [if_neg (by omega), if_neg (by omega)] at hown
      have hsum := Lib.hid (sum1_any (X k) _ _ (RdS.of_own hown) ha)
      obtain ⟨uo, uc, hu, _, _, _, _⟩ := RdS.of_own hown
      subst hu
      go_wp2_with (go_at_call 60; refine hsum.out.mono ?_; rintro e w3 ⟨rfl, hw⟩; obtain rfl := hw.symm)
      go_ret
      exact ⟨rfl, hbr⟩
end Go.Proofs.Ytfknaheijidhcaa

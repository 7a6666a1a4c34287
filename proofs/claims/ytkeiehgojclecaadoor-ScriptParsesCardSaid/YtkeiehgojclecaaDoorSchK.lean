/- The walks of the law's Choices and Back. -/
import Derived.Test.YtkeiehgojclecaaDoorSchY

namespace Go.Proofs.YtkeiehgojclecaaDoor

open Go.RowKit Fl

attribute [local go_sem ↓] Go.wp_at_zero Go.wp_at_succ

set_option maxHeartbeats 1000000 in
theorem choices_any (xs : List Ch) (v : Value) (w : World) (hr : RdC w v xs) (hsz : xs.length ≤ 100000) :
    Calls Tryd.prog 13 #[v] w fun e w' => ∃ v', e = .returned v' ∧ Below w.heap.size w w' ∧ OwnC 46 w.heap.size w' v' xs := by
  obtain ⟨ao, cap, e, hcap, hcm, _⟩ := id hr
  subst e
  obtain ⟨n, hn, hn'⟩ := nm xs.length
  have hr' := hr
  rw [← hn'] at hr' hcap hsz ⊢
  clear hn'
  obtain ⟨i0, hi0, hz0, hz1, hz2⟩ := info_parts infoCh
  go_enter Tryd.func13, Tryd.ntmps13
  go_wp2
  go_loopw [3, 4] (fun vo vi wr => ∃ i : Nat, i ≤ n ∧ vi = .int .i64 i ∧ wr.ownsRow w.heap.size 46 6 vo i (flatC (xs.take i)) ∧ Below w.heap.size w wr) (fun _ vi _ => n - (intOf vi).toNat)
  case atStart => exact ⟨0, Nat.zero_le _, rfl, OwnC.nil _ _ _, Below.refl _ _⟩
  case round =>
    obtain ⟨i, hi, rfl, ho, hbr⟩ := hrel
    have hbs := hbr.size
    by_cases hlt : i < n
    · have hix : i < xs.length := hn.out ▸ hlt
      obtain ⟨b, off, rfl, hb, y0, y1, y2, y3, y4, y5⟩ := hr'.nth i hix
      have hxs : flatC (xs.take (i + 1)) = flatC (xs.take i) ++ (xs[i]).cells := by
        rw [List.take_succ_eq_append_getElem hix, flatC_append]; simp [flatC]
      generalize xs[i] = c at *
      have x0 := keepF hbr _ _ _ y0
      have x1 := keepF hbr _ _ _ y1
      have x2 := keepF hbr _ _ _ y2
      have x3 := keepF hbr _ _ _ y3
      have x4 := keepF hbr _ _ _ y4
      have x5 := keepF hbr _ _ _ y5
      have hxs' := Lib.hid hxs
      have hi0' : (0 : Int) ≤ (i : Int) := by omega
      have hin : (i : Int) < (n : Int) := by omega
      clear hxs
      go_wp2
      go_region_held3 (fun w' => w'.cell? ⟨b, off + i * 6, .none⟩ = some (.int .i64 c.kind) ∧ w'.cell? ⟨b, off + i * 6 + 1, .none⟩ = some (.int .i64 c.client) ∧ w'.cell? ⟨b, off + i * 6 + 2, .none⟩ = some (.int .i64 c.ok) ∧ w'.cell? ⟨b, off + i * 6 + 3, .none⟩ = some (.int .i64 c.oa) ∧ w'.cell? ⟨b, off + i * 6 + 4, .none⟩ = some (.int .i64 c.on) ∧ w'.cell? ⟨b, off + i * 6 + 5, .none⟩ = some (.float .f64 c.bias)) (first | go_keep | exact ⟨keepF hbr1 _ _ _ y0, keepF hbr1 _ _ _ y1, keepF hbr1 _ _ _ y2, keepF hbr1 _ _ _ y3, keepF hbr1 _ _ _ y4, keepF hbr1 _ _ _ y5⟩)
        ((refine step_append_rd (by rfl) (.tmp 11) (.tmp 33) 30 (by rfl) w.heap.size 46 i0 _ 6 48 Tryd.underlying30 hi0 hz0 hz1 hz2 rfl (by omega) _ i (flatC (xs.take i)) (by rfl) ((ho.alloc _).drew)
            _ 1 c.cells (by rfl) (RdS.new (cs := c.cells.toArray) (t := 46) (sz := 6) (n := 1) (heap_alloc_new wr _) rfl (by omega)) (Ch.one _) (by simp only [maxLen]; omega) (by omega) (by simp; omega) ?_; intro v1 w1 hown1 hgrow1 hat1; have hbr1 := grown_belowS (((hbr.alloc hbr.size _).drew)) ((ho.alloc _).drew) (by simp; omega) hgrow1))
      go_wp2
      refine ⟨⟨i + 1, by omega, by go_num, ?_, hbr1⟩, by simp [intOf]; omega⟩
      rw [hxs'.out]
      exact hown1
    · have hie : i = n := by omega
      subst hie
      have hj0 : ¬ ((i : Int) < (i : Int)) := by omega
      go_wp2
      go_ret
      refine ⟨_, rfl, hbr, ?_⟩
      rw [List.take_of_length_le (by rw [← hn.out]; exact Nat.le_refl _)] at ho
      show wr.ownsRow _ _ 6 _ xs.length _
      rw [← hn.out]
      exact ho

set_option maxHeartbeats 1000000 in
theorem back_any (xs : List Ch) (v : Value) (w : World) (hr : RdC w v xs) (hsz : xs.length ≤ 100000) :
    Calls Tryd.prog 18 #[v] w fun e w' => ∃ v', e = .returned v' ∧ Below w.heap.size w w' ∧ OwnC 45 w.heap.size w' v' xs := by
  obtain ⟨ao, cap, e, hcap, hcm, _⟩ := id hr
  subst e
  obtain ⟨n, hn, hn'⟩ := nm xs.length
  have hr' := hr
  rw [← hn'] at hr' hcap hsz ⊢
  clear hn'
  obtain ⟨i0, hi0, hz0, hz1, hz2⟩ := info_parts infoChR
  go_enter Tryd.func18, Tryd.ntmps18
  go_wp2
  go_loopw [3, 4] (fun vo vi wr => ∃ i : Nat, i ≤ n ∧ vi = .int .i64 i ∧ wr.ownsRow w.heap.size 45 6 vo i (flatC (xs.take i)) ∧ Below w.heap.size w wr) (fun _ vi _ => n - (intOf vi).toNat)
  case atStart => exact ⟨0, Nat.zero_le _, rfl, OwnC.nil _ _ _, Below.refl _ _⟩
  case round =>
    obtain ⟨i, hi, rfl, ho, hbr⟩ := hrel
    have hbs := hbr.size
    by_cases hlt : i < n
    · have hix : i < xs.length := hn.out ▸ hlt
      obtain ⟨b, off, rfl, hb, y0, y1, y2, y3, y4, y5⟩ := hr'.nth i hix
      have hxs : flatC (xs.take (i + 1)) = flatC (xs.take i) ++ (xs[i]).cells := by
        rw [List.take_succ_eq_append_getElem hix, flatC_append]; simp [flatC]
      generalize xs[i] = c at *
      have x0 := keepF hbr _ _ _ y0
      have x1 := keepF hbr _ _ _ y1
      have x2 := keepF hbr _ _ _ y2
      have x3 := keepF hbr _ _ _ y3
      have x4 := keepF hbr _ _ _ y4
      have x5 := keepF hbr _ _ _ y5
      have hxs' := Lib.hid hxs
      have hi0' : (0 : Int) ≤ (i : Int) := by omega
      have hin : (i : Int) < (n : Int) := by omega
      clear hxs
      go_wp2
      go_region_held3 (fun w' => w'.cell? ⟨b, off + i * 6, .none⟩ = some (.int .i64 c.kind) ∧ w'.cell? ⟨b, off + i * 6 + 1, .none⟩ = some (.int .i64 c.client) ∧ w'.cell? ⟨b, off + i * 6 + 2, .none⟩ = some (.int .i64 c.ok) ∧ w'.cell? ⟨b, off + i * 6 + 3, .none⟩ = some (.int .i64 c.oa) ∧ w'.cell? ⟨b, off + i * 6 + 4, .none⟩ = some (.int .i64 c.on) ∧ w'.cell? ⟨b, off + i * 6 + 5, .none⟩ = some (.float .f64 c.bias)) (first | go_keep | exact ⟨keepF hbr1 _ _ _ y0, keepF hbr1 _ _ _ y1, keepF hbr1 _ _ _ y2, keepF hbr1 _ _ _ y3, keepF hbr1 _ _ _ y4, keepF hbr1 _ _ _ y5⟩)
        ((refine step_append_rd (by rfl) (.tmp 11) (.tmp 33) 22 (by rfl) w.heap.size 45 i0 _ 6 48 Tryd.underlying22 hi0 hz0 hz1 hz2 rfl (by omega) _ i (flatC (xs.take i)) (by rfl) ((ho.alloc _).drew)
            _ 1 c.cells (by rfl) (RdS.new (cs := c.cells.toArray) (t := 45) (sz := 6) (n := 1) (heap_alloc_new wr _) rfl (by omega)) (Ch.one _) (by simp only [maxLen]; omega) (by omega) (by simp; omega) ?_; intro v1 w1 hown1 hgrow1 hat1; have hbr1 := grown_belowS (((hbr.alloc hbr.size _).drew)) ((ho.alloc _).drew) (by simp; omega) hgrow1))
      go_wp2
      refine ⟨⟨i + 1, by omega, by go_num, ?_, hbr1⟩, by simp [intOf]; omega⟩
      rw [hxs'.out]
      exact hown1
    · have hie : i = n := by omega
      subst hie
      have hj0 : ¬ ((i : Int) < (i : Int)) := by omega
      go_wp2
      go_ret
      refine ⟨_, rfl, hbr, ?_⟩
      rw [List.take_of_length_le (by rw [← hn.out]; exact Nat.le_refl _)] at ho
      show wr.ownsRow _ _ 6 _ xs.length _
      rw [← hn.out]
      exact ho
end Go.Proofs.YtkeiehgojclecaaDoor

/- The law's Blocks and same. -/
import Derived.Test.YtpplmgahpohbmabMdlA
namespace Go.Proofs.Ytpplmgahpohbmab
open Go.RowKit
attribute [local go_sem ↓] Go.wp_at_zero Go.wp_at_succ

theorem infoRb : (Try.prog.info? 44).map (fun i => (i.zero, i.size, i.bytes)) = some (some (.agg #[.int .i64 0, .int .i64 0]), 2, 16) := by kernel_rfl
theorem Bk.one (b : Bk) : ∀ u ∈ b.cells, u.oneCell' = true := by
  intro u hu
  simp only [Bk.cells, List.mem_cons, List.not_mem_nil, or_false] at hu
  rcases hu with rfl | rfl <;> rfl

set_option maxHeartbeats 1000000 in
theorem conv_any (l : List Bk) (v : Value) (w : World) (hr : RdK w v l) (hlen : l.length ≤ 4096) :
    Calls Try.prog 15 #[v] w fun e w' => ∃ v', e = .returned v' ∧ Below w.heap.size w w' ∧ w'.ownsRow w.heap.size 44 2 v' l.length (flatB l) := by
  obtain ⟨ao, cap, rfl, hcap, hcm, hrow⟩ := hr.nth
  obtain ⟨n, hn, hn'⟩ : ∃ n, Hid (n = l.length) ∧ n = l.length := ⟨_, Lib.hid rfl, rfl⟩
  rw [← hn'] at hcap hlen ⊢
  clear hn'
  obtain ⟨i0, hi0, hz0, hz1, hz2⟩ := info_parts infoRb
  go_enter Try.func15, Try.ntmps15
  go_wp2
  go_loopw [3, 4] (fun vo vi wr => ∃ i : Nat, i ≤ n ∧ vi = .int .i64 i ∧ wr.ownsRow w.heap.size 44 2 vo i (flatB (l.take i)) ∧ Below w.heap.size w wr) (fun _ vi _ => n - (intOf vi).toNat)
  case atStart => exact ⟨0, Nat.zero_le _, rfl, ⟨rfl, .inl ⟨rfl, rfl⟩⟩, Below.refl _ _⟩
  case round =>
    obtain ⟨i, hi, rfl, ho, hbr⟩ := hrel
    have hbs := hbr.size
    by_cases hlt : i < n
    · have hix : i < l.length := hn.out ▸ hlt
      obtain ⟨b, off, rfl, hb, hc⟩ := hrow (fun e => by rw [e] at hix; simp at hix)
      obtain ⟨y0, y1⟩ := hc i hix
      have hxs : flatB (l.take (i + 1)) = flatB (l.take i) ++ (l[i]).cells := by
        rw [List.take_succ_eq_append_getElem hix, flatB_append]; simp [flatB]
      clear hc
      generalize l[i] = c at *
      have x0 := keepF hbr _ _ _ y0
      have x1 := keepF hbr _ _ _ y1
      have hxs' := Lib.hid hxs
      have hi0' : (0 : Int) ≤ (i : Int) := by omega
      have hin : (i : Int) < (n : Int) := by omega
      clear hxs
      go_wp2
      go_region_held3 (fun w' => w'.cell? ⟨b, off + i * 2, .none⟩ = some (.int .i64 c.a) ∧ w'.cell? ⟨b, off + i * 2 + 1, .none⟩ = some (.int .i64 c.n)) (first | go_keep | exact ⟨keepF hbr1 _ _ _ y0, keepF hbr1 _ _ _ y1⟩)
        ((refine step_append_rd (by rfl) (.tmp 11) (.tmp 23) 37 (by rfl) w.heap.size 44 i0 _ 2 16 Try.underlying37 hi0 hz0 hz1 hz2 rfl (by omega) _ i (flatB (l.take i)) (by rfl) ((ho.alloc _).drew)
            _ 1 c.cells (by rfl) (RdS.new (cs := c.cells.toArray) (t := 44) (sz := 2) (n := 1) (heap_alloc_new wr _) rfl (by omega)) (Bk.one _) (by simp only [maxLen]; omega) (by omega) (by simp; omega) ?_; intro v1 w1 hown1 hgrow1 hat1; have hbr1 := grown_belowS (((hbr.alloc hbr.size _).drew)) ((ho.alloc _).drew) (by simp; omega) hgrow1))
      go_wp2
      refine ⟨⟨i + 1, by omega, by go_num, ?_, hbr1⟩, by simp [intOf]; omega⟩
      rw [hxs'.out]
      exact hown1
    · have hie : i = n := by omega
      subst hie
      have hj0 : ¬ ((i : Int) < (i : Int)) := by omega
      go_wp2
      go_ret
      refine ⟨_, rfl, hbr, ?_⟩
      rw [List.take_of_length_le (by rw [← hn.out]; exact Nat.le_refl _)] at ho
      exact ho

set_option maxHeartbeats 1000000 in
theorem same_any (l : List Bk) (v v' : Value) (w : World) (hr : RdK w v l) (hr' : RdK w v' l) (hlen : l.length ≤ 4096) :
    Calls Try.prog 14 #[v, v'] w fun e w' => e = .returned (.bool true) ∧ Below w.heap.size w w' := by
  obtain ⟨ao, cap, rfl, hcap, hcm, hrow⟩ := hr.nth
  obtain ⟨ao', cap', rfl, hcap', hcm', hrow'⟩ := hr'.nth
  obtain ⟨n, hn, hn'⟩ : ∃ n, Hid (n = l.length) ∧ n = l.length := ⟨_, Lib.hid rfl, rfl⟩
  rw [← hn'] at hcap hcap' hlen ⊢
  clear hn'
  go_enter Try.func14, Try.ntmps14
  go_wp2
  go_loopw [5] (fun vi wr => ∃ i : Nat, i ≤ n ∧ vi = .int .i64 i ∧ Below w.heap.size w wr) (fun vi _ => n - (intOf vi).toNat)
  case atStart => exact ⟨0, Nat.zero_le _, rfl, Below.refl _ _⟩
  case round =>
    obtain ⟨i, hi, rfl, hbr⟩ := hrel
    by_cases hlt : i < n
    · have hix : i < l.length := hn.out ▸ hlt
      obtain ⟨b, off, rfl, hb, hc⟩ := hrow (fun e => by rw [e] at hix; simp at hix)
      obtain ⟨y0, y1⟩ := hc i hix
      obtain ⟨b', off', rfl, hb', hc'⟩ := hrow' (fun e => by rw [e] at hix; simp at hix)
      obtain ⟨z0, z1⟩ := hc' i hix
      clear hc hc'
      generalize l[i].a = ca at *
      generalize l[i].n = cn at *
      have x0 := keepF hbr _ _ _ y0
      have x1 := keepF hbr _ _ _ y1
      have x2 := keepF hbr _ _ _ z0
      have x3 := keepF hbr _ _ _ z1
      have hi0' : (0 : Int) ≤ (i : Int) := by omega
      have hin : (i : Int) < (n : Int) := by omega
      clear y0 y1 z0 z1
      go_wp2
      go_quiet (fail)
      go_wp2
      exact ⟨⟨i + 1, by omega, by go_num, below_drewN hbr _⟩, by simp [intOf]; omega⟩
    · have hie : i = n := by omega
      subst hie
      have hj0 : ¬ ((i : Int) < (i : Int)) := by omega
      go_wp2
      go_ret
      exact ⟨rfl, hbr⟩
end Go.Proofs.Ytpplmgahpohbmab

/- The walk of the reference's Weave. -/
import Derived.Test.YtpplmgahpohbmaaSchS
namespace Go.Proofs.Ytpplmgahpohbmaa
open Go.RowKit Fl
attribute [local go_sem ↓] Go.wp_at_zero Go.wp_at_succ
attribute [local go_sem high] run_cut_l run_cut_h run_cut_lh

/-- The cells of one choice of a row. -/
theorem RdC.nth {w : World} {ao : Option Addr} {n cap : Nat} {xs : List Ch} (r : RdC w (.slice ao n cap) xs) (i : Nat) (hi : i < xs.length) : ∃ b off, ao = some ⟨b, off, .none⟩ ∧ b < w.heap.size ∧
    w.cell? ⟨b, off + i * 6, .none⟩ = some (.int .i64 xs[i].kind) ∧ w.cell? ⟨b, off + i * 6 + 1, .none⟩ = some (.int .i64 xs[i].client) ∧ w.cell? ⟨b, off + i * 6 + 2, .none⟩ = some (.int .i64 xs[i].ok) ∧ w.cell? ⟨b, off + i * 6 + 3, .none⟩ = some (.int .i64 xs[i].oa) ∧
    w.cell? ⟨b, off + i * 6 + 4, .none⟩ = some (.int .i64 xs[i].on) ∧ w.cell? ⟨b, off + i * 6 + 5, .none⟩ = some (.float .f64 xs[i].bias) := by
  obtain ⟨ao', cap', e, h1, h2, h3⟩ := r
  injection e with e1 _ _
  subst e1
  obtain ⟨b, off, rfl, hlt, hc⟩ := h3 (fun h => by subst h; simp at hi)
  exact ⟨b, off, rfl, hlt, hc i 0 hi (by omega), hc i 1 hi (by omega), hc i 2 hi (by omega), hc i 3 hi (by omega), hc i 4 hi (by omega), hc i 5 hi (by omega)⟩

theorem wv_takeb {l : List Bool} {tot a b out : List Ch} {x y i : Nat} (hi : i < l.length) (hy : y < b.length) (hor : l[i] = true ∨ x = a.length) (he : out ++ weaveL (a.drop x) (b.drop y) (l.drop i) = tot) :
    (out ++ [b[y]]) ++ weaveL (a.drop x) (b.drop (y + 1)) (l.drop (i + 1)) = tot := by
  rw [← he, List.drop_eq_getElem_cons hi, List.drop_eq_getElem_cons hy, List.append_assoc]
  congr 1
  rcases hor with h | h
  · rw [h]
    cases a.drop x <;> rfl
  · rw [List.drop_of_length_le (by omega)]
    cases l[i] <;> rfl
theorem wv_takea {l : List Bool} {tot a b out : List Ch} {x y i : Nat} (hi : i < l.length) (hx : x < a.length) (hor : l[i] = false ∨ y = b.length) (he : out ++ weaveL (a.drop x) (b.drop y) (l.drop i) = tot) :
    (out ++ [a[x]]) ++ weaveL (a.drop (x + 1)) (b.drop y) (l.drop (i + 1)) = tot := by
  rw [← he, List.drop_eq_getElem_cons hi, List.drop_eq_getElem_cons hx, List.append_assoc]
  congr 1
  rcases hor with h | h
  · rw [h]
    cases b.drop y <;> rfl
  · rw [show b.drop y = [] from List.drop_of_length_le (by omega)]
    cases l[i] <;> rfl
theorem wv_len {l : List Bool} {tot a b out : List Ch} {x y : Nat} (he : out ++ weaveL (a.drop x) (b.drop y) l = tot) (hx : x ≤ a.length) (hy : y ≤ b.length) : out.length + (a.length - x) + (b.length - y) = tot.length := by
  rw [← he, List.length_append, weaveL_length, List.length_drop, List.length_drop]
  omega

set_option maxHeartbeats 1000000 in
theorem refWeave_any (a b : List Ch) (l : List Bool) (va vb vl : Value) (w : World) (ha : RdC w va a) (hb : RdC w vb b) (hl : RdB w vl l) (hsz : a.length + b.length ≤ 100000) :
    Calls Try.prog 17 #[va, vb, vl] w fun e w' => ∃ v', e = .returned v' ∧ Below w.heap.size w w' ∧ OR w.heap.size w' v' (weaveL a b l) := by
  obtain ⟨ao, cap, rfl, hcap, hcm, hbit⟩ := cell_b hl
  obtain ⟨aa, ca, e, hca, hcam, _⟩ := id ha
  subst e
  obtain ⟨bb, cb, e, hcb, hcbm, _⟩ := id hb
  subst e
  have hlN : l.length ≤ 9223372036854775807 := by omega
  obtain ⟨n, hn, hn'⟩ := nm a.length
  obtain ⟨m, hm, hm'⟩ := nm b.length
  obtain ⟨L, hL, hL'⟩ := nm l.length
  have ha' := ha
  have hb' := hb
  rw [← hn'] at ha' hca ⊢
  rw [← hm'] at hb' hcb ⊢
  rw [← hL'] at hcap hlN ⊢
  obtain ⟨tot, htot⟩ : ∃ tot, tot = weaveL a b l := ⟨_, rfl⟩
  have htl : tot.length ≤ 100000 := by rw [htot, weaveL_length]; exact hsz
  have htl2 : n + m ≤ 100000 := by rw [hn', hm']; exact hsz
  rw [← htot]
  have htot' := Lib.hid htot
  clear htot hn' hm' hL'
  obtain ⟨i0, hi0, hz0, hz1, hz2⟩ := info_parts infoChR
  go_enter Try.func17, Try.ntmps17
  go_wp2
  go_loopw [7, 8, 9, 10] (fun vo vx vy vi wr => ∃ (x y i : Nat) (out : List Ch), i ≤ L ∧ x ≤ n ∧ y ≤ m ∧ vi = .int .i64 i ∧ vx = .int .i64 x ∧ vy = .int .i64 y ∧ OR w.heap.size wr vo out ∧ Hid (out ++ weaveL (a.drop x) (b.drop y) (l.drop i) = tot) ∧ Below w.heap.size w wr) (fun _ _ _ vi _ => L - (intOf vi).toNat)
  case atStart => exact ⟨0, 0, 0, [], Nat.zero_le _, Nat.zero_le _, Nat.zero_le _, rfl, rfl, rfl, OwnC.nil _ _ _, Lib.hid htot'.out.symm, Below.refl _ _⟩
  case round =>
    obtain ⟨x, y, i, out, hi, hx, hy, rfl, rfl, rfl, ho, he, hbr⟩ := hrel
    have hlen : out.length + (n - x) + (m - y) ≤ 100000 := by
      have := wv_len he.out (hn.out ▸ hx) (hm.out ▸ hy)
      rw [hn.out, hm.out]; omega
    obtain ⟨q, hq, hq'⟩ := nm out.length
    have ho : wr.ownsRow w.heap.size 52 6 u7 q (flatC out) := by rw [hq']; exact ho
    rw [← hq'] at hlen
    clear hq'
    have hbs := hbr.size
    by_cases hgo : i < L ∧ (x < n ∨ y < m)
    · obtain ⟨hlt, hor⟩ := hgo
      have hiL : i < l.length := hL.out ▸ hlt
      obtain ⟨g, off, rfl, hg, hc⟩ := hbit i hiL
      have hc := keepF hbr _ _ _ hc
      by_cases htb : y < m ∧ (l[i] = true ∨ x = n)
      · obtain ⟨hym, htb⟩ := htb
        have hyb : y < b.length := hm.out ▸ hym
        obtain ⟨bb, ob, rfl, hbb, y0, y1, y2, y3, y4, y5⟩ := hb'.nth y hyb
        have x0 := keepF hbr _ _ _ y0
        have x1 := keepF hbr _ _ _ y1
        have x2 := keepF hbr _ _ _ y2
        have x3 := keepF hbr _ _ _ y3
        have x4 := keepF hbr _ _ _ y4
        have x5 := keepF hbr _ _ _ y5
        have hnx := Lib.hid (wv_takeb hiL hyb (by rw [← hn.out]; exact htb) he.out)
        have hyI : (y : Int) < (m : Int) := by omega
        have hy0 : (0 : Int) ≤ (y : Int) := by omega
        generalize hbi : l[i] = bit at *
        generalize b[y] = c at *
        have hcase : (bit = true ∧ x < n) ∨ (bit = true ∧ x = n) ∨ (bit = false ∧ x = n) := by
          rcases htb with h | h
          · rcases Nat.lt_or_ge x n with h2 | h2
            · exact .inl ⟨h, h2⟩
            · exact .inr (.inl ⟨h, by omega⟩)
          · cases bit
            · exact .inr (.inr ⟨rfl, h⟩)
            · exact .inr (.inl ⟨rfl, h⟩)
        clear hbi htb hor hbit he y0 y1 y2 y3 y4 y5
        rcases hcase with ⟨rfl, hxn⟩ | ⟨rfl, rfl⟩ | ⟨rfl, rfl⟩
        all_goals
          go_wp2_with (refine wpList_append_rd rfl (.tmp 45) (.tmp 50) 41 rfl w.heap.size 52 i0 _ 6 48 Try.underlying41 hi0 hz0 hz1 hz2 rfl (by omega) _ q (flatC out) rfl (ho.alloc _) _ 1 c.cells rfl (RdS.new (cs := c.cells.toArray) (t := 52) (sz := 6) (n := 1) (heap_alloc_new wr _) rfl (by omega)) (Ch.one _) (by simp only [maxLen]; omega) (by omega) (by simp; omega) ?_; intro v1 w1 hown1 hgrow1 hat1; have hbr1 := grown_belowS (hbr.alloc hbr.size _) (ho.alloc _) (by simp; omega) hgrow1)
          refine ⟨⟨_, y + 1, i + 1, out ++ [c], by omega, hx, by omega, by go_num, rfl, by go_num, ?_, hnx, hbr1⟩, by simp [intOf]; omega⟩
          show w1.ownsRow _ _ 6 _ (out ++ [c]).length (flatC (out ++ [c]))
          rw [flatC_append, List.length_append, ← hq.out]
          exact hown1
      · have hxn : x < n := by
          rcases Nat.lt_or_ge x n with h | h
          · exact h
          · exact absurd ⟨by omega, .inr (by omega)⟩ htb
        have hta : l[i] = false ∨ y = m := by
          rcases Nat.lt_or_ge y m with h | h
          · left
            cases hb : l[i]
            · rfl
            · exact absurd ⟨h, .inl hb⟩ htb
          · exact .inr (by omega)
        have hxa : x < a.length := hn.out ▸ hxn
        obtain ⟨aa, oa, rfl, haa, y0, y1, y2, y3, y4, y5⟩ := ha'.nth x hxa
        have x0 := keepF hbr _ _ _ y0
        have x1 := keepF hbr _ _ _ y1
        have x2 := keepF hbr _ _ _ y2
        have x3 := keepF hbr _ _ _ y3
        have x4 := keepF hbr _ _ _ y4
        have x5 := keepF hbr _ _ _ y5
        have hnx := Lib.hid (wv_takea hiL hxa (by rw [← hm.out]; exact hta) he.out)
        have hxI : (x : Int) < (n : Int) := by omega
        have hx0 : (0 : Int) ≤ (x : Int) := by omega
        have hxe : ((x : Int) == (n : Int)) = false := by rw [beq_eq_false_iff_ne]; omega
        generalize hbi : l[i] = bit at *
        generalize a[x] = c at *
        clear hbi htb hor hbit he y0 y1 y2 y3 y4 y5
        have hcase : bit = false ∨ (bit = true ∧ y = m) := by
          rcases hta with h | h
          · exact .inl h
          · cases bit
            · exact .inl rfl
            · exact .inr ⟨rfl, h⟩
        rcases hcase with rfl | ⟨rfl, rfl⟩
        all_goals
          go_wp2_with (refine wpList_append_rd rfl (.tmp 54) (.tmp 59) 41 rfl w.heap.size 52 i0 _ 6 48 Try.underlying41 hi0 hz0 hz1 hz2 rfl (by omega) _ q (flatC out) rfl (ho.alloc _) _ 1 c.cells rfl (RdS.new (cs := c.cells.toArray) (t := 52) (sz := 6) (n := 1) (heap_alloc_new wr _) rfl (by omega)) (Ch.one _) (by simp only [maxLen]; omega) (by omega) (by simp; omega) ?_; intro v1 w1 hown1 hgrow1 hat1; have hbr1 := grown_belowS (hbr.alloc hbr.size _) (ho.alloc _) (by simp; omega) hgrow1)
          refine ⟨⟨x + 1, _, i + 1, out ++ [c], by omega, by omega, hy, by go_num, by go_num, rfl, ?_, hnx, hbr1⟩, by simp [intOf]; omega⟩
          show w1.ownsRow _ _ 6 _ (out ++ [c]).length (flatC (out ++ [c]))
          rw [flatC_append, List.length_append, ← hq.out]
          exact hown1
    · have hen : weaveL (a.drop x) (b.drop y) (l.drop i) = a.drop x ++ b.drop y := by
        by_cases hlt : i < L
        · have h1 : a.drop x = [] := List.drop_of_length_le (by rw [← hn.out]; omega)
          have h2 : b.drop y = [] := List.drop_of_length_le (by rw [← hm.out]; omega)
          rw [h1, h2]
          cases l.drop i <;> rfl
        · rw [List.drop_of_length_le (by rw [← hL.out]; omega : l.length ≤ i)]
          cases a.drop x <;> rfl
      have hfin := Lib.hid (show tot = out ++ a.drop x ++ b.drop y by rw [List.append_assoc, ← hen, he.out])
      have sa := ((ha.cut (l := x) (h := a.length) (by rw [← hn.out]; exact hx) (Nat.le_refl _)).s).below hbr
      have sb := ((hb.cut (l := y) (h := b.length) (by rw [← hm.out]; exact hy) (Nat.le_refl _)).s).below hbr
      rw [List.take_of_length_le (by rw [List.length_drop]; exact Nat.le_refl _), List.length_drop, ← hn.out] at sa
      rw [List.take_of_length_le (by rw [List.length_drop]; exact Nat.le_refl _), List.length_drop, ← hm.out] at sb
      have hxI : (x : Int) ≤ (n : Int) := by omega
      have hyI : (y : Int) ≤ (m : Int) := by omega
      have hx0 : (0 : Int) ≤ (x : Int) := by omega
      have hy0 : (0 : Int) ≤ (y : Int) := by omega
      have sb1 : ∀ w1, Below w.heap.size w w1 → RdS w1 6 (cutV bb y m cb 6) (m - y) (flatC (b.drop y)) := fun w1 h1 => by
        have sb := ((hb.cut (l := y) (h := b.length) (by rw [← hm.out]; exact hy) (Nat.le_refl _)).s).below h1
        rw [List.take_of_length_le (by rw [List.length_drop]; exact Nat.le_refl _), List.length_drop, ← hm.out] at sb
        exact sb
      have sb1 := Lib.hid sb1
      have hcase : (i < L ∧ x = n ∧ y = m) ∨ i = L := by omega
      clear he hen
      rcases hcase with ⟨hiL, rfl, rfl⟩ | rfl
      all_goals
        go_wp2
        go_region_held3 (fun _ => True) (trivial)
          (first
            | (refine step_append_rd (by rfl) (.tmp 63) (.tmp 66) 41 (by rfl) w.heap.size 52 i0 _ 6 48 Try.underlying41 hi0 hz0 hz1 hz2 rfl (by omega) _ q (flatC out) (by rfl) ho.drew
                _ _ _ (by rfl) sa.drew (flat_one _) (by simp only [maxLen]; omega) (by omega) hbs ?_; intro v2 w2 hown2 hgrow2 hat2; have hbr2 := grown_belowS hbr.drew ho.drew hbs hgrow2; have hbs2 := hbr2.size)
            | (refine step_append_rd (by rfl) (.tmp 67) (.tmp 70) 41 (by rfl) w.heap.size 52 i0 _ 6 48 Try.underlying41 hi0 hz0 hz1 hz2 rfl (by omega) _ _ _ (by rfl) hown2
                _ _ _ (by rfl) (sb1.out _ hbr2) (flat_one _) (by simp only [maxLen]; omega) (by omega) hbs2 ?_; intro v3 w3 hown3 hgrow3 hat3; have hbr3 := grown_belowS hbr2 hown2 hbs2 hgrow3))
        go_wp2
        go_ret
        refine ⟨_, rfl, hbr3, ?_⟩
        show w3.ownsRow _ _ 6 _ tot.length (flatC tot)
        rw [hfin.out, flatC_append, flatC_append, List.length_append, List.length_append, List.length_drop, List.length_drop, ← hq.out, ← hn.out, ← hm.out]
        exact hown3
end Go.Proofs.Ytpplmgahpohbmaa

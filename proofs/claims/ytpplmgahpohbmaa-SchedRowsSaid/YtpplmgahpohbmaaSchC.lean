/- The walks of Cut, of package sched and of the reference. -/
import Derived.Test.YtpplmgahpohbmaaSchX
namespace Go.Proofs.Ytpplmgahpohbmaa
open Go.RowKit Fl
attribute [local go_sem ↓] Go.wp_at_zero Go.wp_at_succ
attribute [local go_sem high] run_cut_l run_cut_h run_cut_lh

theorem infoChR : (Try.prog.info? 52).map (fun i => (i.zero, i.size, i.bytes)) = some (some zeroCh, 6, 48) := by kernel_rfl
def killC (c : Int) : Ch := ⟨4, c, 0, 0, 0, 0⟩
def cutK (xs : List Ch) (t : Int) : Nat := (max 0 (min t (xs.length : Int))).toNat
theorem cutK_le (xs : List Ch) (t : Int) : cutK xs t ≤ xs.length := by unfold cutK; omega
def cutL (xs : List Ch) (t c : Int) : List Ch := xs.take (cutK xs t) ++ killC c :: xs.drop (cutK xs t)
theorem cut_end {w : World} {E : TypeId} {B k n : Nat} {xs : List Ch} {t c : Int} {v : Value} (hk : k = cutK xs t) (hn : n = xs.length)
    (h : w.ownsRow B E 6 v (k + 1 + (n - k)) (flatC (xs.take k) ++ (killC c).cells ++ flatC (xs.drop k))) : OwnC E B w v (cutL xs t c) := by
  subst hk hn
  have hl := cutK_le xs t
  have e1 : (cutL xs t c).length = cutK xs t + 1 + (xs.length - cutK xs t) := by
    unfold cutL; rw [List.length_append, List.length_take, List.length_cons, List.length_drop]; omega
  have e2 : flatC (cutL xs t c) = flatC (xs.take (cutK xs t)) ++ (killC c).cells ++ flatC (xs.drop (cutK xs t)) := by
    unfold cutL; rw [flatC_append, List.append_assoc]; rfl
  show w.ownsRow B E 6 v _ _
  rw [e1, e2]
  exact h

set_option maxHeartbeats 1000000 in
theorem cut_any (xs : List Ch) (v : Value) (t c : Int) (w : World) (hr : RdC w v xs) (hsz : xs.length ≤ 100000) (ht0 : -9223372036854775808 ≤ t) (ht1 : t ≤ 9223372036854775807) :
    Calls Try.prog 13 #[v, .int .i64 t, .int .i64 c] w fun e w' => ∃ v', e = .returned v' ∧ Below w.heap.size w w' ∧ OwnC 31 w.heap.size w' v' (cutL xs t c) := by
  have hs := hr.s
  obtain ⟨ao, cap, rfl, hcap, hcm, _⟩ := hr
  have hcut := hs.cut (l := 0) (h := cutK xs t) (Nat.zero_le _) (cutK_le xs t)
  have hcut2 := hs.cut (l := cutK xs t) (h := xs.length) (cutK_le xs t) (Nat.le_refl _)
  rw [Nat.zero_mul, List.drop_zero, Nat.sub_zero, flatC_take] at hcut
  rw [flatC_drop, List.take_of_length_le (by rw [flatC_length, List.length_drop]; exact Nat.le_refl _)] at hcut2
  obtain ⟨k, hk, hk'⟩ := nm (cutK xs t)
  have hkI : max 0 (min t (xs.length : Int)) = (k : Int) := by rw [hk']; unfold cutK; omega
  have hkl := cutK_le xs t
  rw [← hk'] at hcut hcut2 hkl
  obtain ⟨n, hn, hn'⟩ := nm xs.length
  rw [← hn'] at hcap hkI hkl hcut2 hsz ⊢
  clear hs hk' hn'
  have hkN : (k : Int) ≤ (n : Int) := by omega
  have hk0 : (0 : Int) ≤ (k : Int) := by omega
  have hkc : (k : Int) ≤ (cap : Int) := by omega
  obtain ⟨i0, hi0, hz0, hz1, hz2⟩ := info_parts infoCh
  have h3 : (t ≤ 0 ∧ k = 0) ∨ (0 < t ∧ t ≤ (n : Int) ∧ t = (k : Int)) ∨ ((n : Int) < t ∧ (0 : Int) < (n : Int) ∧ k = n) ∨ ((n : Int) < t ∧ n = 0 ∧ k = 0) := by omega
  clear hkI
  rcases h3 with ⟨ht, hkk⟩ | ⟨ht, ht2, htt⟩ | ⟨ht, ht2, hkk⟩ | ⟨ht, hnn, hkk⟩
  · subst hkk
    go_enter Try.func13, Try.ntmps13
    go_wp2_with (first
      | (refine wpList_append_rd rfl (.const (.slice none 0 0)) (.tmp 15) 25 rfl w.heap.size 31 i0 _ 6 48 Try.underlying25 hi0 hz0 hz1 hz2 rfl (by omega) _ 0 [] rfl (OwnC.nil _ _ _) _ 0 (flatC (xs.take 0)) rfl hcut (flat_one _) (by simp only [maxLen]; omega) (by omega) (Nat.le_refl _) ?_; intro v1 w1 hown1 hgrow1 hat1; have hbr1 := grown_belowS (Below.refl w.heap.size w) (OwnC.nil 31 w.heap.size w) (Nat.le_refl _) hgrow1; have hbs1 := hbr1.size; simp only [Nat.zero_add, List.nil_append] at hown1))
    go_region_held3 (fun _ => True) (trivial)
      (first
        | (refine step_append_rd (by rfl) (.tmp 17) (.tmp 20) 25 (by rfl) w.heap.size 31 i0 _ 6 48 Try.underlying25 hi0 hz0 hz1 hz2 rfl (by omega) _ 0 (flatC (xs.take 0)) (by rfl) ((hown1.alloc _).drew)
            _ 1 (killC c).cells (by rfl) (RdS.new (cs := (killC c).cells.toArray) (t := 31) (sz := 6) (n := 1) (heap_alloc_new w1 _) rfl (by omega)) (Ch.one _) (by simp only [maxLen]; omega) (by omega) (by simp; omega) ?_; intro v2 w2 hown2 hgrow2 hat2; have hbr2 := grown_belowS ((hbr1.alloc hbr1.size _).drew) ((hown1.alloc _).drew) (by simp; omega) hgrow2; have hbs2 := hbr2.size)
        | (refine step_append_rd (by rfl) (.tmp 21) (.tmp 24) 25 (by rfl) w.heap.size 31 i0 _ 6 48 Try.underlying25 hi0 hz0 hz1 hz2 rfl (by omega) _ (0 + 1) (flatC (xs.take 0) ++ (killC c).cells) (by rfl) hown2
            _ (n - 0) (flatC (xs.drop 0)) (by rfl) (hcut2.below hbr2) (flat_one _) (by simp only [maxLen]; omega) (by omega) hbs2 ?_; intro v3 w3 hown3 hgrow3 hat3; have hbr3 := grown_belowS hbr2 hown2 hbs2 hgrow3))
    go_wp2
    go_ret
    exact ⟨_, rfl, hbr3, cut_end hk.out hn.out hown3⟩
  · subst htt
    have hkp : 0 < k := by omega
    go_enter Try.func13, Try.ntmps13
    go_wp2_with (first
      | (refine wpList_append_rd rfl (.const (.slice none 0 0)) (.tmp 15) 25 rfl w.heap.size 31 i0 _ 6 48 Try.underlying25 hi0 hz0 hz1 hz2 rfl (by omega) _ 0 [] rfl (OwnC.nil _ _ _) _ k (flatC (xs.take k)) rfl hcut (flat_one _) (by simp only [maxLen]; omega) (by omega) (Nat.le_refl _) ?_; intro v1 w1 hown1 hgrow1 hat1; have hbr1 := grown_belowS (Below.refl w.heap.size w) (OwnC.nil 31 w.heap.size w) (Nat.le_refl _) hgrow1; have hbs1 := hbr1.size; simp only [Nat.zero_add, List.nil_append] at hown1))
    go_region_held3 (fun _ => True) (trivial)
      (first
        | (refine step_append_rd (by rfl) (.tmp 17) (.tmp 20) 25 (by rfl) w.heap.size 31 i0 _ 6 48 Try.underlying25 hi0 hz0 hz1 hz2 rfl (by omega) _ k (flatC (xs.take k)) (by rfl) ((hown1.alloc _).drew)
            _ 1 (killC c).cells (by rfl) (RdS.new (cs := (killC c).cells.toArray) (t := 31) (sz := 6) (n := 1) (heap_alloc_new w1 _) rfl (by omega)) (Ch.one _) (by simp only [maxLen]; omega) (by omega) (by simp; omega) ?_; intro v2 w2 hown2 hgrow2 hat2; have hbr2 := grown_belowS ((hbr1.alloc hbr1.size _).drew) ((hown1.alloc _).drew) (by simp; omega) hgrow2; have hbs2 := hbr2.size)
        | (refine step_append_rd (by rfl) (.tmp 21) (.tmp 24) 25 (by rfl) w.heap.size 31 i0 _ 6 48 Try.underlying25 hi0 hz0 hz1 hz2 rfl (by omega) _ (k + 1) (flatC (xs.take k) ++ (killC c).cells) (by rfl) hown2
            _ (n - k) (flatC (xs.drop k)) (by rfl) (hcut2.below hbr2) (flat_one _) (by simp only [maxLen]; omega) (by omega) hbs2 ?_; intro v3 w3 hown3 hgrow3 hat3; have hbr3 := grown_belowS hbr2 hown2 hbs2 hgrow3))
    go_wp2
    go_ret
    exact ⟨_, rfl, hbr3, cut_end hk.out hn.out hown3⟩
  · subst hkk
    have hkp : 0 < k := by omega
    go_enter Try.func13, Try.ntmps13
    go_wp2_with (first
      | (refine wpList_append_rd rfl (.const (.slice none 0 0)) (.tmp 15) 25 rfl w.heap.size 31 i0 _ 6 48 Try.underlying25 hi0 hz0 hz1 hz2 rfl (by omega) _ 0 [] rfl (OwnC.nil _ _ _) _ k (flatC (xs.take k)) rfl hcut (flat_one _) (by simp only [maxLen]; omega) (by omega) (Nat.le_refl _) ?_; intro v1 w1 hown1 hgrow1 hat1; have hbr1 := grown_belowS (Below.refl w.heap.size w) (OwnC.nil 31 w.heap.size w) (Nat.le_refl _) hgrow1; have hbs1 := hbr1.size; simp only [Nat.zero_add, List.nil_append] at hown1))
    go_region_held3 (fun _ => True) (trivial)
      (first
        | (refine step_append_rd (by rfl) (.tmp 17) (.tmp 20) 25 (by rfl) w.heap.size 31 i0 _ 6 48 Try.underlying25 hi0 hz0 hz1 hz2 rfl (by omega) _ k (flatC (xs.take k)) (by rfl) ((hown1.alloc _).drew)
            _ 1 (killC c).cells (by rfl) (RdS.new (cs := (killC c).cells.toArray) (t := 31) (sz := 6) (n := 1) (heap_alloc_new w1 _) rfl (by omega)) (Ch.one _) (by simp only [maxLen]; omega) (by omega) (by simp; omega) ?_; intro v2 w2 hown2 hgrow2 hat2; have hbr2 := grown_belowS ((hbr1.alloc hbr1.size _).drew) ((hown1.alloc _).drew) (by simp; omega) hgrow2; have hbs2 := hbr2.size)
        | (refine step_append_rd (by rfl) (.tmp 21) (.tmp 24) 25 (by rfl) w.heap.size 31 i0 _ 6 48 Try.underlying25 hi0 hz0 hz1 hz2 rfl (by omega) _ (k + 1) (flatC (xs.take k) ++ (killC c).cells) (by rfl) hown2
            _ (k - k) (flatC (xs.drop k)) (by rfl) (hcut2.below hbr2) (flat_one _) (by simp only [maxLen]; omega) (by omega) hbs2 ?_; intro v3 w3 hown3 hgrow3 hat3; have hbr3 := grown_belowS hbr2 hown2 hbs2 hgrow3))
    go_wp2
    go_ret
    exact ⟨_, rfl, hbr3, cut_end hk.out hn.out hown3⟩
  · subst hnn hkk
    go_enter Try.func13, Try.ntmps13
    go_wp2_with (first
      | (refine wpList_append_rd rfl (.const (.slice none 0 0)) (.tmp 15) 25 rfl w.heap.size 31 i0 _ 6 48 Try.underlying25 hi0 hz0 hz1 hz2 rfl (by omega) _ 0 [] rfl (OwnC.nil _ _ _) _ 0 (flatC (xs.take 0)) rfl hcut (flat_one _) (by simp only [maxLen]; omega) (by omega) (Nat.le_refl _) ?_; intro v1 w1 hown1 hgrow1 hat1; have hbr1 := grown_belowS (Below.refl w.heap.size w) (OwnC.nil 31 w.heap.size w) (Nat.le_refl _) hgrow1; have hbs1 := hbr1.size; simp only [Nat.zero_add, List.nil_append] at hown1))
    go_region_held3 (fun _ => True) (trivial)
      (first
        | (refine step_append_rd (by rfl) (.tmp 17) (.tmp 20) 25 (by rfl) w.heap.size 31 i0 _ 6 48 Try.underlying25 hi0 hz0 hz1 hz2 rfl (by omega) _ 0 (flatC (xs.take 0)) (by rfl) ((hown1.alloc _).drew)
            _ 1 (killC c).cells (by rfl) (RdS.new (cs := (killC c).cells.toArray) (t := 31) (sz := 6) (n := 1) (heap_alloc_new w1 _) rfl (by omega)) (Ch.one _) (by simp only [maxLen]; omega) (by omega) (by simp; omega) ?_; intro v2 w2 hown2 hgrow2 hat2; have hbr2 := grown_belowS ((hbr1.alloc hbr1.size _).drew) ((hown1.alloc _).drew) (by simp; omega) hgrow2; have hbs2 := hbr2.size)
        | (refine step_append_rd (by rfl) (.tmp 21) (.tmp 24) 25 (by rfl) w.heap.size 31 i0 _ 6 48 Try.underlying25 hi0 hz0 hz1 hz2 rfl (by omega) _ (0 + 1) (flatC (xs.take 0) ++ (killC c).cells) (by rfl) hown2
            _ (0 - 0) (flatC (xs.drop 0)) (by rfl) (hcut2.below hbr2) (flat_one _) (by simp only [maxLen]; omega) (by omega) hbs2 ?_; intro v3 w3 hown3 hgrow3 hat3; have hbr3 := grown_belowS hbr2 hown2 hbs2 hgrow3))
    go_wp2
    go_ret
    exact ⟨_, rfl, hbr3, cut_end hk.out hn.out hown3⟩

set_option maxHeartbeats 1000000 in
theorem refCut_any (xs : List Ch) (v : Value) (t c : Int) (w : World) (hr : RdC w v xs) (hsz : xs.length ≤ 100000) (ht0 : -9223372036854775808 ≤ t) (ht1 : t ≤ 9223372036854775807) :
    Calls Try.prog 18 #[v, .int .i64 t, .int .i64 c] w fun e w' => ∃ v', e = .returned v' ∧ Below w.heap.size w w' ∧ OwnC 52 w.heap.size w' v' (cutL xs t c) := by
  have hs := hr.s
  obtain ⟨ao, cap, rfl, hcap, hcm, _⟩ := hr
  have hcut := hs.cut (l := 0) (h := cutK xs t) (Nat.zero_le _) (cutK_le xs t)
  have hcut2 := hs.cut (l := cutK xs t) (h := xs.length) (cutK_le xs t) (Nat.le_refl _)
  rw [Nat.zero_mul, List.drop_zero, Nat.sub_zero, flatC_take] at hcut
  rw [flatC_drop, List.take_of_length_le (by rw [flatC_length, List.length_drop]; exact Nat.le_refl _)] at hcut2
  obtain ⟨k, hk, hk'⟩ := nm (cutK xs t)
  have hkI : max 0 (min t (xs.length : Int)) = (k : Int) := by rw [hk']; unfold cutK; omega
  have hkl := cutK_le xs t
  rw [← hk'] at hcut hcut2 hkl
  obtain ⟨n, hn, hn'⟩ := nm xs.length
  rw [← hn'] at hcap hkI hkl hcut2 hsz ⊢
  clear hs hk' hn'
  have hkN : (k : Int) ≤ (n : Int) := by omega
  have hk0 : (0 : Int) ≤ (k : Int) := by omega
  have hkc : (k : Int) ≤ (cap : Int) := by omega
  obtain ⟨i0, hi0, hz0, hz1, hz2⟩ := info_parts infoChR
  have h3 : (t ≤ 0 ∧ k = 0) ∨ (0 < t ∧ t ≤ (n : Int) ∧ t = (k : Int)) ∨ ((n : Int) < t ∧ (0 : Int) < (n : Int) ∧ k = n) ∨ ((n : Int) < t ∧ n = 0 ∧ k = 0) := by omega
  clear hkI
  rcases h3 with ⟨ht, hkk⟩ | ⟨ht, ht2, htt⟩ | ⟨ht, ht2, hkk⟩ | ⟨ht, hnn, hkk⟩
  · subst hkk
    go_enter Try.func18, Try.ntmps18
    go_wp2_with (first
      | (refine wpList_append_rd rfl (.const (.slice none 0 0)) (.tmp 15) 41 rfl w.heap.size 52 i0 _ 6 48 Try.underlying41 hi0 hz0 hz1 hz2 rfl (by omega) _ 0 [] rfl (OwnC.nil _ _ _) _ 0 (flatC (xs.take 0)) rfl hcut (flat_one _) (by simp only [maxLen]; omega) (by omega) (Nat.le_refl _) ?_; intro v1 w1 hown1 hgrow1 hat1; have hbr1 := grown_belowS (Below.refl w.heap.size w) (OwnC.nil 52 w.heap.size w) (Nat.le_refl _) hgrow1; have hbs1 := hbr1.size; simp only [Nat.zero_add, List.nil_append] at hown1))
    go_region_held3 (fun _ => True) (trivial)
      (first
        | (refine step_append_rd (by rfl) (.tmp 17) (.tmp 20) 41 (by rfl) w.heap.size 52 i0 _ 6 48 Try.underlying41 hi0 hz0 hz1 hz2 rfl (by omega) _ 0 (flatC (xs.take 0)) (by rfl) ((hown1.alloc _).drew)
            _ 1 (killC c).cells (by rfl) (RdS.new (cs := (killC c).cells.toArray) (t := 52) (sz := 6) (n := 1) (heap_alloc_new w1 _) rfl (by omega)) (Ch.one _) (by simp only [maxLen]; omega) (by omega) (by simp; omega) ?_; intro v2 w2 hown2 hgrow2 hat2; have hbr2 := grown_belowS ((hbr1.alloc hbr1.size _).drew) ((hown1.alloc _).drew) (by simp; omega) hgrow2; have hbs2 := hbr2.size)
        | (refine step_append_rd (by rfl) (.tmp 21) (.tmp 24) 41 (by rfl) w.heap.size 52 i0 _ 6 48 Try.underlying41 hi0 hz0 hz1 hz2 rfl (by omega) _ (0 + 1) (flatC (xs.take 0) ++ (killC c).cells) (by rfl) hown2
            _ (n - 0) (flatC (xs.drop 0)) (by rfl) (hcut2.below hbr2) (flat_one _) (by simp only [maxLen]; omega) (by omega) hbs2 ?_; intro v3 w3 hown3 hgrow3 hat3; have hbr3 := grown_belowS hbr2 hown2 hbs2 hgrow3))
    go_wp2
    go_ret
    exact ⟨_, rfl, hbr3, cut_end hk.out hn.out hown3⟩
  · subst htt
    have hkp : 0 < k := by omega
    go_enter Try.func18, Try.ntmps18
    go_wp2_with (first
      | (refine wpList_append_rd rfl (.const (.slice none 0 0)) (.tmp 15) 41 rfl w.heap.size 52 i0 _ 6 48 Try.underlying41 hi0 hz0 hz1 hz2 rfl (by omega) _ 0 [] rfl (OwnC.nil _ _ _) _ k (flatC (xs.take k)) rfl hcut (flat_one _) (by simp only [maxLen]; omega) (by omega) (Nat.le_refl _) ?_; intro v1 w1 hown1 hgrow1 hat1; have hbr1 := grown_belowS (Below.refl w.heap.size w) (OwnC.nil 52 w.heap.size w) (Nat.le_refl _) hgrow1; have hbs1 := hbr1.size; simp only [Nat.zero_add, List.nil_append] at hown1))
    go_region_held3 (fun _ => True) (trivial)
      (first
        | (refine step_append_rd (by rfl) (.tmp 17) (.tmp 20) 41 (by rfl) w.heap.size 52 i0 _ 6 48 Try.underlying41 hi0 hz0 hz1 hz2 rfl (by omega) _ k (flatC (xs.take k)) (by rfl) ((hown1.alloc _).drew)
            _ 1 (killC c).cells (by rfl) (RdS.new (cs := (killC c).cells.toArray) (t := 52) (sz := 6) (n := 1) (heap_alloc_new w1 _) rfl (by omega)) (Ch.one _) (by simp only [maxLen]; omega) (by omega) (by simp; omega) ?_; intro v2 w2 hown2 hgrow2 hat2; have hbr2 := grown_belowS ((hbr1.alloc hbr1.size _).drew) ((hown1.alloc _).drew) (by simp; omega) hgrow2; have hbs2 := hbr2.size)
        | (refine step_append_rd (by rfl) (.tmp 21) (.tmp 24) 41 (by rfl) w.heap.size 52 i0 _ 6 48 Try.underlying41 hi0 hz0 hz1 hz2 rfl (by omega) _ (k + 1) (flatC (xs.take k) ++ (killC c).cells) (by rfl) hown2
            _ (n - k) (flatC (xs.drop k)) (by rfl) (hcut2.below hbr2) (flat_one _) (by simp only [maxLen]; omega) (by omega) hbs2 ?_; intro v3 w3 hown3 hgrow3 hat3; have hbr3 := grown_belowS hbr2 hown2 hbs2 hgrow3))
    go_wp2
    go_ret
    exact ⟨_, rfl, hbr3, cut_end hk.out hn.out hown3⟩
  · subst hkk
    have hkp : 0 < k := by omega
    go_enter Try.func18, Try.ntmps18
    go_wp2_with (first
      | (refine wpList_append_rd rfl (.const (.slice none 0 0)) (.tmp 15) 41 rfl w.heap.size 52 i0 _ 6 48 Try.underlying41 hi0 hz0 hz1 hz2 rfl (by omega) _ 0 [] rfl (OwnC.nil _ _ _) _ k (flatC (xs.take k)) rfl hcut (flat_one _) (by simp only [maxLen]; omega) (by omega) (Nat.le_refl _) ?_; intro v1 w1 hown1 hgrow1 hat1; have hbr1 := grown_belowS (Below.refl w.heap.size w) (OwnC.nil 52 w.heap.size w) (Nat.le_refl _) hgrow1; have hbs1 := hbr1.size; simp only [Nat.zero_add, List.nil_append] at hown1))
    go_region_held3 (fun _ => True) (trivial)
      (first
        | (refine step_append_rd (by rfl) (.tmp 17) (.tmp 20) 41 (by rfl) w.heap.size 52 i0 _ 6 48 Try.underlying41 hi0 hz0 hz1 hz2 rfl (by omega) _ k (flatC (xs.take k)) (by rfl) ((hown1.alloc _).drew)
            _ 1 (killC c).cells (by rfl) (RdS.new (cs := (killC c).cells.toArray) (t := 52) (sz := 6) (n := 1) (heap_alloc_new w1 _) rfl (by omega)) (Ch.one _) (by simp only [maxLen]; omega) (by omega) (by simp; omega) ?_; intro v2 w2 hown2 hgrow2 hat2; have hbr2 := grown_belowS ((hbr1.alloc hbr1.size _).drew) ((hown1.alloc _).drew) (by simp; omega) hgrow2; have hbs2 := hbr2.size)
        | (refine step_append_rd (by rfl) (.tmp 21) (.tmp 24) 41 (by rfl) w.heap.size 52 i0 _ 6 48 Try.underlying41 hi0 hz0 hz1 hz2 rfl (by omega) _ (k + 1) (flatC (xs.take k) ++ (killC c).cells) (by rfl) hown2
            _ (k - k) (flatC (xs.drop k)) (by rfl) (hcut2.below hbr2) (flat_one _) (by simp only [maxLen]; omega) (by omega) hbs2 ?_; intro v3 w3 hown3 hgrow3 hat3; have hbr3 := grown_belowS hbr2 hown2 hbs2 hgrow3))
    go_wp2
    go_ret
    exact ⟨_, rfl, hbr3, cut_end hk.out hn.out hown3⟩
  · subst hnn hkk
    go_enter Try.func18, Try.ntmps18
    go_wp2_with (first
      | (refine wpList_append_rd rfl (.const (.slice none 0 0)) (.tmp 15) 41 rfl w.heap.size 52 i0 _ 6 48 Try.underlying41 hi0 hz0 hz1 hz2 rfl (by omega) _ 0 [] rfl (OwnC.nil _ _ _) _ 0 (flatC (xs.take 0)) rfl hcut (flat_one _) (by simp only [maxLen]; omega) (by omega) (Nat.le_refl _) ?_; intro v1 w1 hown1 hgrow1 hat1; have hbr1 := grown_belowS (Below.refl w.heap.size w) (OwnC.nil 52 w.heap.size w) (Nat.le_refl _) hgrow1; have hbs1 := hbr1.size; simp only [Nat.zero_add, List.nil_append] at hown1))
    go_region_held3 (fun _ => True) (trivial)
      (first
        | (refine step_append_rd (by rfl) (.tmp 17) (.tmp 20) 41 (by rfl) w.heap.size 52 i0 _ 6 48 Try.underlying41 hi0 hz0 hz1 hz2 rfl (by omega) _ 0 (flatC (xs.take 0)) (by rfl) ((hown1.alloc _).drew)
            _ 1 (killC c).cells (by rfl) (RdS.new (cs := (killC c).cells.toArray) (t := 52) (sz := 6) (n := 1) (heap_alloc_new w1 _) rfl (by omega)) (Ch.one _) (by simp only [maxLen]; omega) (by omega) (by simp; omega) ?_; intro v2 w2 hown2 hgrow2 hat2; have hbr2 := grown_belowS ((hbr1.alloc hbr1.size _).drew) ((hown1.alloc _).drew) (by simp; omega) hgrow2; have hbs2 := hbr2.size)
        | (refine step_append_rd (by rfl) (.tmp 21) (.tmp 24) 41 (by rfl) w.heap.size 52 i0 _ 6 48 Try.underlying41 hi0 hz0 hz1 hz2 rfl (by omega) _ (0 + 1) (flatC (xs.take 0) ++ (killC c).cells) (by rfl) hown2
            _ (0 - 0) (flatC (xs.drop 0)) (by rfl) (hcut2.below hbr2) (flat_one _) (by simp only [maxLen]; omega) (by omega) hbs2 ?_; intro v3 w3 hown3 hgrow3 hat3; have hbr3 := grown_belowS hbr2 hown2 hbs2 hgrow3))
    go_wp2
    go_ret
    exact ⟨_, rfl, hbr3, cut_end hk.out hn.out hown3⟩
end Go.Proofs.Ytpplmgahpohbmaa

/- An operation is asked once, answered once: the walk of ClientOnce. -/
import Derived.Test.YtcgakbgmdabnkaaGreatBn47

import Derived.Test.YtcgakbgmdabnkaaGreatZOncP

set_option linter.all false
namespace Go.Proofs.YtcgakbgmdabnkaaGreat

open Go.RowKit

attribute [local go_sem ↓] Go.wp_at_zero Go.wp_at_succ

theorem keepF' {B : Nat} {w w' : World} {g i : Nat} {v : Option Value} (h : Below B w w') (hg : g < B) (hc : w.cell? ⟨g, i, .none⟩ = v) : w'.cell? ⟨g, i, .none⟩ = v := (h.cell (p := ⟨g, i, .none⟩) hg).trans hc
/-- So many of each kind. -/
def cntC (es : List Ev) : Array Value := #[.int .i64 0, .int .i64 0, .int .i64 (manyE es 2 : Nat), .int .i64 (manyE es 3 : Nat), .int .i64 (manyE es 4 : Nat), .int .i64 (manyE es 5 : Nat)]
theorem manyE_take (es : List Ev) {j : Nat} (h : j < es.length) (i : Int) : manyE (es.take (j + 1)) i = manyE (es.take j) i + if (es[j]).k = i then 1 else 0 := by
  rw [List.take_succ_eq_append_getElem h, manyE_app, manyE_one]
theorem manyE_le (es : List Ev) (i : Int) : manyE es i ≤ es.length := List.countP_le_length
set_option maxRecDepth 100000 in
set_option maxHeartbeats 8000000 in
theorem once_any (s : Sh) (zs : List Int) (o1 : Op3) (v : Value) (w : World) (hr : RdZ .u64 w v zs) (hz : (memOf zs).fit) :
    Calls Tryz.prog 3 #[.agg #[.int .i64 s.p, .int .i64 s.c, .int .i64 s.m], v, .agg #[.int .i64 o1.k, .int .i64 o1.a, .int .i64 o1.n]] w fun e w' => e = .returned (.bool true) ∧ Below w.heap.size w w' := by
  have haw := fun W => awake20 W
  obtain ⟨ao, cap, rfl, hcap, hcm, hcell⟩ := hr.cells
  obtain ⟨n, hn, hn'⟩ : ∃ n, Hid (n = zs.length) ∧ n = zs.length := ⟨_, Lib.hid rfl, rfl⟩
  rw [← hn'] at hcap hr ⊢
  clear hn' hcell
  have hfa := fun W => fair_any s ao n cap W
  have hb0 := ((Below.refl w.heap.size w).alloc (Nat.le_refl _) (.cells #[.int .i64 s.p, .int .i64 s.c, .int .i64 s.m] 23)).alloc (by simp) (.cells #[.int .i64 o1.k, .int .i64 o1.a, .int .i64 o1.n] 26)
  replace haw := Lib.hid haw
  replace hfa := Lib.hid hfa
  replace hr := Lib.hid hr
  go_enter Tryz.func3, Tryz.ntmps3
  go_upto_region 1 with fail
  have t0 : RowAt ((w.alloc (.cells #[.int .i64 s.p, .int .i64 s.c, .int .i64 s.m] 23)).alloc (.cells #[.int .i64 o1.k, .int .i64 o1.a, .int .i64 o1.n] 26)) w.heap.size #[.int .i64 s.p, .int .i64 s.c, .int .i64 s.m] 23 := RowAt.alloc (heap_alloc_new _ _) _
  have t1 : RowAt ((w.alloc (.cells #[.int .i64 s.p, .int .i64 s.c, .int .i64 s.m] 23)).alloc (.cells #[.int .i64 o1.k, .int .i64 o1.a, .int .i64 o1.n] 26)) (w.heap.size + 1) #[.int .i64 o1.k, .int .i64 o1.a, .int .i64 o1.n] 26 := by
    have h := heap_alloc_new (w.alloc (.cells #[.int .i64 s.p, .int .i64 s.c, .int .i64 s.m] 23)) (.cells #[.int .i64 o1.k, .int .i64 o1.a, .int .i64 o1.n] 26)
    rw [show (w.alloc (.cells #[.int .i64 s.p, .int .i64 s.c, .int .i64 s.m] 23)).heap.size = w.heap.size + 1 by simp] at h
    exact h
  have hrX := Lib.hid (RdS.below hr.out (w' := (w.alloc (.cells #[.int .i64 s.p, .int .i64 s.c, .int .i64 s.m] 23)).alloc (.cells #[.int .i64 o1.k, .int .i64 o1.a, .int .i64 o1.n] 26)) (by exact hb0))
  clear hr
  generalize (w.alloc (.cells #[.int .i64 s.p, .int .i64 s.c, .int .i64 s.m] 23)).alloc (.cells #[.int .i64 o1.k, .int .i64 o1.a, .int .i64 o1.n] 26) = X at *
  obtain ⟨G, hG, hG'⟩ : ∃ G, Hid (G = w.heap.size + 1) ∧ G = w.heap.size + 1 := ⟨_, Lib.hid rfl, rfl⟩
  rw [← hG'] at t1 ⊢
  clear hG'
  obtain ⟨H, hH, hH'⟩ : ∃ H, Hid (H = w.heap.size) ∧ H = w.heap.size := ⟨_, Lib.hid rfl, rfl⟩
  rw [← hH'] at t0 hb0 ⊢
  clear hH'
  have lH := t0.lt
  have lG := t1.lt
  go_upto_region 3 with (first
    | (go_at_call 8; (with_reducible refine (haw.out _).mono ?_); rintro r w1 ⟨rfl, hb1⟩)
    | fail)
  replace t0 := t0.below hb1
  replace t1 := t1.below hb1
  replace hrX := Lib.hid (RdS.below hrX.out hb1)
  have hb1' : Below H w w1 := hb0.trans (hb1.mono (by omega))
  have lH1 := t0.lt
  have lG1 := t1.lt
  clear haw hb0 hb1 lH lG
  have c0 : w1.cell? ⟨H, 0, .none⟩ = some (.int .i64 s.p) := t0.cell 0
  have c1 : w1.cell? ⟨H, 1, .none⟩ = some (.int .i64 s.c) := t0.cell 1
  have c2 : w1.cell? ⟨H, 2, .none⟩ = some (.int .i64 s.m) := t0.cell 2
  have x0 : w1.cell? ⟨G, 0, .none⟩ = some (.int .i64 o1.k) := t1.cell 0
  have hX0 := Lib.hid (fun W (h : Below w1.heap.size w1 W) => ((t1.below h).cell 0 : W.cell? ⟨G, 0, .none⟩ = some (.int .i64 o1.k)))
  have lGX : ∀ W, Below w1.heap.size w1 W → G < W.heap.size := fun W h => by have := h.size; omega
  replace lGX := Lib.hid lGX
  rcases hcs : fairB s n with _ | _
  · rw [hcs] at hfa
    go_wp2_with (first
      | (go_at_call 9; (with_reducible refine (hfa.out _).mono ?_); rintro r w2 ⟨rfl, hb2⟩; have x0 := hX0.out _ hb2; have lG2 := lGX.out _ hb2)
      | fail)
    go_returns
    exact ⟨rfl, by rw [← hH.out]; exact hb1'.trans (hb2.mono (by omega))⟩
  rw [hcs] at hfa
  have hfair : mayB s.p s.c s.m = true ∧ (n : Int) = totalV s.p s.c s.m := by simpa [fairB] using hcs
  have hfit : Fits s (memOf zs) := ⟨hfair.1, by rw [← hfair.2, hn.out]; rfl⟩
  have htot := lwTotal_bd hfair.1
  have hzl : zs.length ≤ 2000 := by rw [← hn.out]; omega
  have hbd := hfit.bd
  have hfl := fun v w hr => fill_any zs v w hr hz hzl
  replace hfl := Lib.hid hfl
  replace hfair := Lib.hid hfair
  clear hcs htot hzl
  replace hbd := Lib.hid hbd
  by_cases hk : 1 ≤ o1.k ∧ o1.k ≤ 4
  case neg =>
    rcases (show o1.k < 1 ∨ (¬ o1.k < 1 ∧ 4 < o1.k) by omega) with hk1 | ⟨hk1, hk2⟩
    all_goals
      go_wp2_with (first
        | (go_at_call 9; (with_reducible refine (hfa.out _).mono ?_); rintro r w2 ⟨rfl, hb2⟩; have x0 := hX0.out _ hb2; have lG2 := lGX.out _ hb2)
        | fail)
      go_returns
      exact ⟨rfl, by rw [← hH.out]; exact hb1'.trans (hb2.mono (by omega))⟩
  case pos =>
  have hk1 : ¬ o1.k < 1 := by omega
  have hk2 : ¬ 4 < o1.k := by omega
  have hkn : ∀ (x : Nat) W, Calls Tryz.prog 11 #[.agg #[.int .i64 s.p, .int .i64 s.c, .int .i64 s.m], .int .i64 0, F64 x] W fun e w' => ∃ q, e = .returned (.pointer (some ⟨q, 0, .none⟩)) ∧ KlO (fun i => W.heap.size ≤ i ∧ i < w'.heap.size) w' q s (klNew 0 (Fl.shareI x s.p)) ∧ Below W.heap.size W w' := fun x W => (klnew_any s 0 x W (by have := hbd.out; omega)).mono fun e w' h => by
    obtain ⟨h1, h2⟩ := h
    rw [if_neg (by rw [status_in hfair.out.1 (by have := hbd.out; omega)]; omega)] at h2
    obtain ⟨q, e, h3⟩ := h2
    exact ⟨q, e, h3, h1⟩
  dsimp only [F64] at hkn
  replace hkn := Lib.hid hkn
  have hnil1 : ∀ (p : Nat) (W : World), (binOp .eql 29 (.pointer (some ⟨p, 0, .none⟩)) (.pointer none)).run Tryz.prog W = .ok (.bool false) W := fun p W => by kernel_rfl
  have hnil2 : ∀ (p : Nat) (W : World), (binOp .eql 31 (.pointer (some ⟨p, 0, .none⟩)) (.pointer none)).run Tryz.prog W = .ok (.bool false) W := fun p W => by kernel_rfl
  go_upto_region 6 with (first
    | (go_at_call 9; (with_reducible refine (hfa.out _).mono ?_); rintro r w2 ⟨rfl, hb2⟩; have x0 := hX0.out _ hb2; have lG2 := lGX.out _ hb2; have hr2 := (show RdZ .u64 w2 (.slice ao n cap) zs from RdS.below hrX.out hb2))
    | (go_at_call 10; (with_reducible refine (hfl.out _ _ hr2).mono ?_); rintro r w3 ⟨p, b, rfl, hw3, hp3, hb3, hB3⟩)
    | fail)
  have hs2 := hb2.size
  have hb23 : Below w1.heap.size w1 w3 := hb2.trans (hB3.mono hb2.size)
  replace t0 := t0.below hb23
  replace t1 := t1.below hb23
  replace hp3 : w1.heap.size ≤ p := by omega
  replace hb3 : w1.heap.size ≤ b := by omega
  have hs3 := hB3.size
  have hbw3 : Below H w w3 := hb1'.trans (hb23.mono (by omega))
  clear hfa hrX hr2 hb2 hB3 hb1' hb23 c0 c1 c2 x0 hX0 lGX lG2 hfl
  have lH3 := t0.lt
  have c0 : w3.cell? ⟨H, 0, .none⟩ = some (.int .i64 s.p) := t0.cell 0
  have c1 : w3.cell? ⟨H, 1, .none⟩ = some (.int .i64 s.c) := t0.cell 1
  have c2 : w3.cell? ⟨H, 2, .none⟩ = some (.int .i64 s.m) := t0.cell 2
  have lp3 := hw3.ltp
  have lb3 := hw3.ltb
  go_upto_region 9 with (first
    | (go_at_call 11; (with_reducible refine (hkn.out _ _).mono ?_); rintro r w4 ⟨q, rfl, hk4, hb4⟩)
    | fail)
  have hf0 := Fl.shareI_bd 4607182418800017408 (n := s.p) (by have := hbd.out; omega)
  generalize Fl.shareI 4607182418800017408 s.p = f0 at *
  have hcw : CW w1.heap.size _ w4 q p b s (klNew 0 f0) (memOf zs) :=
    ⟨hk4, hw3.below hb4, fun e => by omega, fun e => by omega, fun i hi => by omega, by omega, by omega, klNew_ok (by have := hbd.out; omega) hf0, hfit⟩
  replace t0 := t0.below hb4
  replace t1 := t1.below hb4
  have hbw4 : Below H w w4 := hbw3.trans (hb4.mono (by omega))
  have hl4 : w1.heap.size ≤ w4.heap.size := by have := hb4.size; omega
  generalize (fun i => w3.heap.size ≤ i ∧ i < w4.heap.size) = F at *
  clear c0 c1 c2 hkn hbw3 hw3 hk4 hb4 lp3 lb3 hp3 hb3 hs2 hs3 lH3
  generalize w1.heap.size = N at *
  obtain ⟨he1, ⟨r1, hr1⟩, hI⟩ := once_ask hk hfair.out.1 hf0 (by have := hbd.out; omega : 0 < s.c)
  have hst0 : ((klNew 0 f0).invoke s o1).1.steps = 0 := klAsk_new _ _ _
  have hask := cw_ask o1 hcw hl4
  have hask2 : ∀ r w', CwAsk N F w4 w' q p b s (klNew 0 f0) (memOf zs) o1 r → ∃ ao n cap F', r = .returned (.tuple #[.slice ao n cap, .int .i64 0]) ∧ n = ((klNew 0 f0).invoke s o1).2.1.length ∧ RdE w' (.slice ao n cap) ((klNew 0 f0).invoke s o1).2.1 ∧ CW N F' w' q p b s ((klNew 0 f0).invoke s o1).1 (memOf zs) ∧ Below N w4 w' := fun r w' h => by
    obtain ⟨⟨v, e, ho⟩, h2, h3, h4⟩ := h
    obtain ⟨ao, cap, e2, _⟩ := RdS.of_own ho
    subst e2
    rw [he1] at e
    exact ⟨ao, _, cap, _, e, rfl, rdE_own ho, h2, h4⟩
  replace hask := hask.mono hask2
  clear hask2 he1 hcw
  generalize ((klNew 0 f0).invoke s o1).1 = k1 at *
  generalize ((klNew 0 f0).invoke s o1).2.1 = xs at *
  replace hask := Lib.hid hask
  replace hr1 := Lib.hid hr1
  replace hst0 := Lib.hid hst0
  replace hI := Lib.hid hI
  replace hk := Lib.hid hk
  have x0 : w4.cell? ⟨G, 0, .none⟩ = some (.int .i64 o1.k) := t1.cell 0
  have x1 : w4.cell? ⟨G, 1, .none⟩ = some (.int .i64 o1.a) := t1.cell 1
  have x2 : w4.cell? ⟨G, 2, .none⟩ = some (.int .i64 o1.n) := t1.cell 2
  go_upto_region 10 with (first
    | (go_at_call 12; (with_reducible refine hask.out.mono ?_); rintro r w5 ⟨a5, n5, k5, F5, rfl, hn5, hr5, hcw5, hb5⟩; replace hn5 := Lib.hid hn5)
    | fail)
  replace t0 := t0.belB hb5 lH1
  replace t1 := t1.belB hb5 lG1
  have hbw5 : Below H w w5 := hbw4.trans (hb5.mono (by omega))
  clear hask x0 x1 x2 hb5 hbw4 hl4
  have x0 : w5.cell? ⟨G, 0, .none⟩ = some (.int .i64 o1.k) := t1.cell 0
  have x1 : w5.cell? ⟨G, 1, .none⟩ = some (.int .i64 o1.a) := t1.cell 1
  have x2 : w5.cell? ⟨G, 2, .none⟩ = some (.int .i64 o1.n) := t1.cell 2
  obtain ⟨ax, cx, hax, hcx, hmx, hcell⟩ := hr5.nth
  have hnp : 0 < n5 := by rw [hn5.out, hr1.out]; simp
  obtain ⟨g, o, e6, hg, hcl⟩ := hcell (by rw [hr1.out]; simp)
  clear hcell
  subst e6
  obtain ⟨e7, e8⟩ : a5 = some ⟨g, o, .none⟩ ∧ k5 = cx := by injection hax with h1 h2 h3; exact ⟨h1, h3⟩
  subst e7 e8
  have hx0 : xs[0]'(by rw [hr1.out]; simp) = evAsked 0 o1 := by simp [hr1.out]
  have y0 : w5.cell? ⟨g, o, .none⟩ = some (.int .i64 2) := by have := hcl 0 (by rw [hr1.out]; simp) 0 (by omega); rw [hx0] at this; simpa [Ev.cells, evAsked] using this
  have y2 : w5.cell? ⟨g, o + 2, .none⟩ = some (.int .i64 o1.k) := by have := hcl 0 (by rw [hr1.out]; simp) 2 (by omega); rw [hx0] at this; simpa [Ev.cells, evAsked] using this
  have y3 : w5.cell? ⟨g, o + 3, .none⟩ = some (.int .i64 o1.a) := by have := hcl 0 (by rw [hr1.out]; simp) 3 (by omega); rw [hx0] at this; simpa [Ev.cells, evAsked] using this
  have y4 : w5.cell? ⟨g, o + 4, .none⟩ = some (.int .i64 o1.n) := by have := hcl 0 (by rw [hr1.out]; simp) 4 (by omega); rw [hx0] at this; simpa [Ev.cells, evAsked] using this
  have hnz : ((n5 : Int) == 0) = false := by simp; omega
  have hnl : (n5 : Int) ≠ 0 := by omega
  clear hx0 hcl hax hcx
  go_wp2
  go_quiet (fail)
  have hb5n : Below w5.heap.size w5 (w5.drewN nq) := below_drewN (Below.refl _ _) nq
  have hl5 : N ≤ w5.heap.size := by have := hcw5.lp; have := hcw5.wd.ltp; omega
  replace hcw5 := hcw5.below hb5n
  replace hr5 := hr5.below hb5n
  replace t0 := t0.below hb5n
  replace t1 := t1.below hb5n
  replace hbw5 : Below H w (w5.drewN nq) := hbw5.trans (hb5n.mono (by omega))
  have hg' : g < (w5.drewN nq).heap.size := hg
  replace hl5 : N ≤ (w5.drewN nq).heap.size := hl5
  clear x0 x1 x2 y0 y2 y3 y4 hb5n hg
  generalize w5.drewN nq = w6 at *
  go_upto_region 12 with fail
  obtain ⟨i0, hi0, hz0, hz1, hz2⟩ := info_parts infoEv
  have hown0 : (w6.alloc (.cells #[] 39)).ownsRow N 39 8 (.slice (some ⟨w6.heap.size, 0, .none⟩) 0 0) 0 [] :=
    ⟨rfl, .inr ⟨w6.heap.size, 0, #[], rfl, hl5, heap_alloc_new _ _, Nat.le_refl _, by simp only [maxLen]; omega, rfl, rfl⟩⟩
  have hbA : Below w6.heap.size w6 (w6.alloc (.cells #[] 39)) := (Below.refl _ _).alloc (Nat.le_refl _) _
  have hrA := hr5.below hbA
  have hxl : (xs.length : Int) ≤ 2 := by have := hI.out.len; rw [hst0.out] at this; omega
  have hlA : N ≤ (w6.alloc (.cells #[] 39)).heap.size := by simp; omega
  go_upto_region 14 with (first
    | (refine wpList_append_rd rfl (.tmp 72) (.tmp 73) 34 rfl N 39 i0 _ 8 64 Tryz.underlying34 hi0 hz0 hz1 hz2 rfl (by omega) _ 0 [] rfl hown0 _ xs.length _ rfl hrA (evOnes xs) (by simp only [maxLen]; omega) (by omega) hlA ?_; intro v7 w7 hown7 hgrow7 hat7)
    | fail)
  have hnA : RowE N F5 (w6.alloc (.cells #[] 39)) p b (.slice (some ⟨w6.heap.size, 0, .none⟩) 0 0) [] :=
    ⟨hown0, fun i hi => by
      simp only [Value.ownBlock, Option.some.injEq] at hi
      subst hi
      exact ⟨fun e => by have := hcw5.kl.lt _ e; omega, Nat.ne_of_gt hcw5.wd.ltp, Nat.ne_of_gt hcw5.wd.ltb⟩⟩
  have hp7 := hnA.put (xs := xs) (hcw5.below hbA) hgrow7 hown7 hat7
  rw [List.nil_append] at hp7
  have hb7 : Below N w6 w7 := grown_belowS (hbA.mono hl5) hown0 hlA hgrow7
  replace t0 := t0.belB hb7 lH1
  replace t1 := t1.belB hb7 lG1
  replace hbw5 : Below H w w7 := hbw5.trans (hb7.mono (by omega))
  clear hown0 hbA hrA hlA hnA hown7 hgrow7 hat7 hcw5 hr5 hnz hnl hb7 hg'
  obtain ⟨hc7, hr7⟩ := hp7
  have hrs := Lib.hid (fun W => ref20Steps_any s hfair.out.1 W)
  have hs0 := hbd.out
  obtain ⟨M, hM, hM'⟩ : ∃ M : Int, Hid (M = 110 * s.p + 4 * s.m + 60) ∧ M = 110 * s.p + 4 * s.m + 60 := ⟨_, Lib.hid rfl, rfl⟩
  rw [← hM'] at hrs
  have hMb : M ≤ 10000 := by omega
  have hM0 : 0 ≤ M := by omega
  clear hM' hs0
  go_loopw [11, 12] (fun v11 v12 wr => ∃ (k : Kl) (m : Mem) (F' : Nat → Prop) (all : List Ev), v12 = .int .i64 k.steps ∧ (m.st = k.steps ∧ k.steps ≤ M) ∧ CW N F' wr q p b s k m ∧ RowE N F' wr p b v11 all ∧ OnceI o1 k all ∧ Below H w wr ∧ RowAt wr H #[.int .i64 s.p, .int .i64 s.c, .int .i64 s.m] 23 ∧ RowAt wr G #[.int .i64 o1.k, .int .i64 o1.a, .int .i64 o1.n] 26) (fun _ v12 _ => (M - intOf v12).toNat)
  case atStart => exact ⟨k1, memOf zs, F5, xs, by rw [hst0.out], ⟨by rw [hst0.out]; rfl, by rw [hst0.out]; omega⟩, hc7, hr7, hI.out, hbw5, t0, t1⟩
  case round =>
    clear t0 t1 hc7 hr7 hbw5 hl5 hI hr1 hst0 hn5
    obtain ⟨k, m, F', all, rfl, ⟨hms, hkM⟩, hc, hro, hI, hbr, t0, t1⟩ := hrel
    have hlr : N ≤ wr.heap.size := by have := hc.lp; have := hc.wd.ltp; omega
    have lHr := t0.lt
    have c0 : wr.cell? ⟨H, 0, .none⟩ = some (.int .i64 s.p) := t0.cell 0
    have c1 : wr.cell? ⟨H, 1, .none⟩ = some (.int .i64 s.c) := t0.cell 1
    have c2 : wr.cell? ⟨H, 2, .none⟩ = some (.int .i64 s.m) := t0.cell 2
    have hidle := fun W (h : KlO F' W q s k) => klidle_any h
    rcases hj : k.job with _ | j
    · have hre : k.rests = true := by unfold Kl.rests; rw [hj]; rfl
      rw [hre] at hidle
      have hfin := Lib.hid (hI.fin hj)
      have hev := Lib.hid hI.ev
      have htwo := Lib.hid hI.two
      have hlen := hI.len
      have hok := hc.ok
      have hlt : Hid ((k.steps < M) ∨ ¬ (k.steps < M)) := Lib.hid (Decidable.em _)
      replace hidle := Lib.hid hidle
      obtain ⟨n, hn, hn'⟩ : ∃ n, Hid (n = all.length) ∧ n = all.length := ⟨_, Lib.hid rfl, rfl⟩
      have hn1 : 1 ≤ n := by
        obtain ⟨pre, e, h, _⟩ := hfin.out
        rw [hn', h]; simp
      have hnb : n ≤ 40000 := by omega
      obtain ⟨ax, cx, hu, hcx, hmx, hcl⟩ := hro.rd.nth
      obtain ⟨g, o, e6, hg, hcl'⟩ := hcl (by intro e0; rw [e0] at hn'; simp at hn'; omega)
      clear hcl
      subst e6
      rw [← hn'] at hu
      have hbz : Hid (∀ W, Below wr.heap.size wr W → Below w.heap.size w W) := Lib.hid fun W h => by rw [← hH.out]; exact hbr.trans (h.mono (by omega))
      have hG3 : Hid (∀ W, Below wr.heap.size wr W → RowAt W G #[.int .i64 o1.k, .int .i64 o1.a, .int .i64 o1.n] 26) := Lib.hid fun W h => t1.below h
      clear hn' hI hms hj hre hcx hmx hlen hok hbr t0 t1 hkM
      obtain ⟨W0, rfl⟩ : ∃ V : World, V = wr := ⟨_, rfl⟩
      subst hu
      clear hro
      go_upto_region 14 with fail
      go_cut [83] from 75 to 83 (fun v83 wc => v83 = .bool false ∧ Below W0.heap.size W0 wc ∧ CW N F' wc q p b s k m)
      case first =>
        rcases hlt.out with hlt | hlt
        all_goals
          go_wp2_with (first
            | (go_at_call 13; (with_reducible refine (hrs.out _).mono ?_); rintro r w8 ⟨rfl, hb8⟩; have hc8 := hc.below hb8)
            | (go_at_call 14; (with_reducible refine (hidle.out _ hc8.kl).mono ?_); rintro r w9 ⟨rfl, hw9⟩; obtain rfl := hw9.symm; clear hw9)
            | fail)
          go_meet
        all_goals exact ⟨rfl, hb8, hc8⟩
      case rest =>
        obtain ⟨rfl, hb8, hc8⟩ := hcut
        go_upto_region 20 with fail
        go_upto_region 21 with fail
        have hcA := hc8.below ((Below.refl _ _).alloc (Nat.le_refl _) (.cells #[.int .i64 0, .int .i64 0, .int .i64 0, .int .i64 0, .int .i64 0, .int .i64 0] 42))
        have hbA : Below W0.heap.size W0 (wc.alloc (.cells #[.int .i64 0, .int .i64 0, .int .i64 0, .int .i64 0, .int .i64 0, .int .i64 0] 42)) := hb8.alloc hb8.size _
        have hmA : RowAt (wc.alloc (.cells #[.int .i64 0, .int .i64 0, .int .i64 0, .int .i64 0, .int .i64 0, .int .i64 0] 42)) wc.heap.size (cntC (all.take 0)) 42 := heap_alloc_new _ _
        have lr8 := hb8.size
        have hcN : ∀ W, Below wc.heap.size (wc.alloc (.cells #[.int .i64 0, .int .i64 0, .int .i64 0, .int .i64 0, .int .i64 0, .int .i64 0] 42)) W → CW N F' W q p b s k m := fun W h => hc8.below (((Below.refl _ _).alloc (Nat.le_refl _) _).trans h)
        generalize wc.alloc (.cells #[.int .i64 0, .int .i64 0, .int .i64 0, .int .i64 0, .int .i64 0, .int .i64 0] 42) = wA at *
        obtain ⟨K, hK, hK'⟩ : ∃ K, Hid (K = wc.heap.size) ∧ K = wc.heap.size := ⟨_, Lib.hid rfl, rfl⟩
        rw [← hK'] at hmA hcN lr8 ⊢
        clear hK' hb8 hc hc8
        replace hcN := Lib.hid hcN
        replace hcl' := Lib.hid hcl'
        go_wp2
        go_loopw [16] (fun v16 wx => ∃ j : Nat, j ≤ n ∧ v16 = .int .i64 j ∧ Below K wA wx ∧ RowAt wx K (cntC (all.take j)) 42) (fun v16 _ => n - (intOf v16).toNat)
        case atStart => exact ⟨0, Nat.zero_le _, rfl, Below.refl _ _, hmA⟩
        case round =>
          obtain ⟨j, hjn, rfl, hbx, hmx⟩ := hrel
          have hbX : Below W0.heap.size W0 wr := hbA.trans (hbx.mono (by omega))
          have lKr := hmx.lt
          by_cases hj : j < n
          · have hjl : (j : Int) < (n : Int) := by omega
            have hj0 : (0 : Int) ≤ (j : Int) := by omega
            have hjt : j < all.length := hn.out ▸ hj
            have wi1 : IntKind.i64.wrap ((j : Int) + 1) = (j : Int) + 1 := IntWalk.i64_in _ ⟨by omega, by omega⟩
            have X0 : wr.cell? ⟨g, o + j * 8, .none⟩ = some (.int .i64 all[j].k) := keepF hbX _ _ _ ((hcl'.out j hjt 0 (by omega)).trans rfl)
            have X1 : wr.cell? ⟨g, o + j * 8 + 1, .none⟩ = some (.int .i64 all[j].c) := keepF hbX _ _ _ ((hcl'.out j hjt 1 (by omega)).trans rfl)
            have he := hev.out _ (List.getElem_mem hjt)
            have htk := fun i => manyE_take all hjt i
            have hle := fun i => Nat.le_trans (manyE_le (all.take j) i) (by rw [List.length_take]; omega : (all.take j).length ≤ n)
            rw [he.1] at X1
            have lg : g < wr.heap.size := by have := hbX.size; omega
            have h4 : all[j].k = 2 ∨ all[j].k = 3 ∨ all[j].k = 4 ∨ all[j].k = 5 := by omega
            have hmx' := hmx
            unfold cntC at hmx'
            have z2 : wr.cell? ⟨K, 2, .none⟩ = some (.int .i64 (manyE (all.take j) 2 : Nat)) := hmx'.cell 2
            have z3 : wr.cell? ⟨K, 3, .none⟩ = some (.int .i64 (manyE (all.take j) 3 : Nat)) := hmx'.cell 3
            have z4 : wr.cell? ⟨K, 4, .none⟩ = some (.int .i64 (manyE (all.take j) 4 : Nat)) := hmx'.cell 4
            have z5 : wr.cell? ⟨K, 5, .none⟩ = some (.int .i64 (manyE (all.take j) 5 : Nat)) := hmx'.cell 5
            have y2 : IntKind.i64.wrap ((manyE (all.take j) 2 : Nat) + 1 : Int) = (manyE (all.take j) 2 : Nat) + 1 := IntWalk.i64_in _ ⟨by omega, by have := hle 2; omega⟩
            have y3 : IntKind.i64.wrap ((manyE (all.take j) 3 : Nat) + 1 : Int) = (manyE (all.take j) 3 : Nat) + 1 := IntWalk.i64_in _ ⟨by omega, by have := hle 3; omega⟩
            have y4 : IntKind.i64.wrap ((manyE (all.take j) 4 : Nat) + 1 : Int) = (manyE (all.take j) 4 : Nat) + 1 := IntWalk.i64_in _ ⟨by omega, by have := hle 4; omega⟩
            have y5 : IntKind.i64.wrap ((manyE (all.take j) 5 : Nat) + 1 : Int) = (manyE (all.take j) 5 : Nat) + 1 := IntWalk.i64_in _ ⟨by omega, by have := hle 5; omega⟩
            have zf := rowFree hmx'
            have e2 := htk 2
            have e3 := htk 3
            have e4 := htk 4
            have e5 := htk 5
            have hset : ∀ i v, RowAt (wr.setCell ⟨K, i, .none⟩ v) K ((#[.int .i64 0, .int .i64 0, .int .i64 (manyE (all.take j) 2 : Nat), .int .i64 (manyE (all.take j) 3 : Nat), .int .i64 (manyE (all.take j) 4 : Nat), .int .i64 (manyE (all.take j) 5 : Nat)] : Array Value).setIfInBounds i v) 42 := fun i v => hmx'.set i v
            have hbS : ∀ i v, Below K wA (wr.setCell ⟨K, i, .none⟩ v) := fun i v => hbx.setCell (by exact Nat.le_refl _) v
            replace hset := Lib.hid hset
            replace hbS := Lib.hid hbS
            replace e2 := Lib.hid e2
            replace e3 := Lib.hid e3
            replace e4 := Lib.hid e4
            replace e5 := Lib.hid e5
            clear he htk hle hmx hmx'
            generalize manyE (all.take j) 2 = m2 at *
            generalize manyE (all.take j) 3 = m3 at *
            generalize manyE (all.take j) 4 = m4 at *
            generalize manyE (all.take j) 5 = m5 at *
            rcases h4 with h4 | h4 | h4 | h4
            all_goals
              rw [h4] at X0 e2 e3 e4 e5
              clear h4
              go_wp2_with fail
              refine ⟨⟨j + 1, by omega, by go_num, hbS.out _ _, ?_⟩, by simp [intOf]; omega⟩
              unfold cntC
              rw [e2.out, e3.out, e4.out, e5.out]
              exact hset.out _ _
          · have hjn' : j = n := by omega
            subst hjn'
            have hall : all.take j = all := List.take_of_length_le (by rw [← hn.out]; exact Nat.le_refl _)
            rw [hall] at hmx
            obtain ⟨L, rfl⟩ : ∃ L, j = L + 1 := ⟨j - 1, by omega⟩
            obtain ⟨pre, e, h1, h2, h3, h4, h5, h6, h7, h8, h9, h10⟩ := hfin.out
            have hLt : L < all.length := by have := hn.out; omega
            have hLe : all[L] = e := by
              have hp : pre.length = L := by have := hn.out; rw [h1] at this; simp at this; omega
              subst hp
              simp [h1]
            have hec : e.c = 0 := (hev.out e (by rw [h1]; simp)).1
            have hcl2 : ∀ i, i < 8 → wr.cell? ⟨g, o + L * 8 + i, .none⟩ = e.cells.toList[i]? := fun i hi => (keepF' hbX hg (hcl'.out L hLt i hi)).trans (by rw [hLe])
            have hrG := hG3.out _ hbX
            obtain ⟨ok, hok, hok'⟩ : ∃ ok, Hid (ok = o1.k) ∧ ok = o1.k := ⟨_, Lib.hid rfl, rfl⟩
            rw [← hok'] at h3 hrG h10
            obtain ⟨er, her, her'⟩ : ∃ er, Hid (er = e.er) ∧ er = e.er := ⟨_, Lib.hid rfl, rfl⟩
            rw [← her'] at h9 h10
            have V0 : wr.cell? ⟨g, o + L * 8, .none⟩ = some (.int .i64 5) := by have := hcl2 0 (by omega); simpa [Ev.cells, h2] using this
            have V1 : wr.cell? ⟨g, o + L * 8 + 1, .none⟩ = some (.int .i64 0) := by have := hcl2 1 (by omega); simpa [Ev.cells, hec] using this
            have V2 : wr.cell? ⟨g, o + L * 8 + 2, .none⟩ = some (.int .i64 ok) := by have := hcl2 2 (by omega); simpa [Ev.cells, h3] using this
            have V3 : wr.cell? ⟨g, o + L * 8 + 3, .none⟩ = some (.int .i64 o1.a) := by have := hcl2 3 (by omega); simpa [Ev.cells, h4] using this
            have V4 : wr.cell? ⟨g, o + L * 8 + 4, .none⟩ = some (.int .i64 o1.n) := by have := hcl2 4 (by omega); simpa [Ev.cells, h5] using this
            have V5 : wr.cell? ⟨g, o + L * 8 + 5, .none⟩ = some (.int .i64 e.at') := by have := hcl2 5 (by omega); simpa [Ev.cells] using this
            have V6 : wr.cell? ⟨g, o + L * 8 + 6, .none⟩ = some (.int .i64 e.n) := by have := hcl2 6 (by omega); simpa [Ev.cells] using this
            have V7 : wr.cell? ⟨g, o + L * 8 + 7, .none⟩ = some (.int .i64 er) := by have := hcl2 7 (by omega); simpa [Ev.cells, her'] using this
            have hmx' := hmx
            unfold cntC at hmx'
            rw [htwo.out, h6] at hmx'
            obtain ⟨c3, hc3, hc3'⟩ : ∃ c : Int, Hid (c = (manyE all 3 : Nat)) ∧ c = (manyE all 3 : Nat) := ⟨_, Lib.hid rfl, rfl⟩
            obtain ⟨c4, hc4, hc4'⟩ : ∃ c : Int, Hid (c = (manyE all 4 : Nat)) ∧ c = (manyE all 4 : Nat) := ⟨_, Lib.hid rfl, rfl⟩
            rw [← hc3', ← hc4'] at hmx'
            have hcs : (c3 = 0 ∧ ok ≠ 2 ∧ c4 = 0) ∨ (c3 = 0 ∧ ok ≠ 2 ∧ c4 = 1) ∨ (c3 = 1 ∧ er = 0 ∧ ok ≠ 2 ∧ c4 = 0) ∨ (c3 = 1 ∧ er = 0 ∧ ok ≠ 2 ∧ c4 = 1) ∨ (c3 = 0 ∧ er = 0 ∧ ok = 2 ∧ c4 = 1) ∨ (c3 = 1 ∧ er = 0 ∧ ok = 2 ∧ c4 = 1) ∨ (c3 = 0 ∧ er ≠ 0 ∧ ok = 2 ∧ c4 = 0) := by
              by_cases hk2 : ok = 2
              · have h11 := h10 hk2
                by_cases he0 : er = 0
                · have h12 := h11.2 he0
                  omega
                · have h12 : ¬ manyE all 4 = 1 := fun h => he0 (h11.1 h)
                  omega
              · omega
            have hJ := Lib.hid (fun W h => hidle.out _ (hcN.out W h).kl)
            have lG' := hrG.lt
            have wL : IntKind.i64.wrap ((L : Int) + 1 - 1) = (L : Int) := by rw [Int.add_sub_cancel]; exact IntWalk.i64_in _ ⟨by omega, by omega⟩
            have wL' : IntKind.i64.wrap (((L + 1 : Nat) : Int) - 1) = (L : Int) := by rw [show (((L + 1 : Nat) : Int) - 1) = (L : Int) by omega]; exact IntWalk.i64_in _ ⟨by omega, by omega⟩
            have lg : g < wr.heap.size := by have := hbX.size; omega
            have hj0 : ¬ (((L + 1 : Nat) : Int) < ((L + 1 : Nat) : Int)) := by omega
            have hL0 : (0 : Int) ≤ (L : Int) := by omega
            have hL1 : (L : Int) < (L : Int) + 1 := by omega
            clear h1 h2 h3 h4 h5 h6 h7 h8 h9 h10 hec hcl2 hok' her' hc3' hc4' hLt hLe hall hfin hmx
            generalize e.at' = ea at *
            generalize e.n = en at *
            go_upto_region 28 with fail
            have hnR : RowAt (wr.alloc (.cells #[.int .i64 5, .int .i64 0, .int .i64 ok, .int .i64 o1.a, .int .i64 o1.n, .int .i64 ea, .int .i64 en, .int .i64 er] 39)) wr.heap.size #[.int .i64 5, .int .i64 0, .int .i64 ok, .int .i64 o1.a, .int .i64 o1.n, .int .i64 ea, .int .i64 en, .int .i64 er] 39 := heap_alloc_new _ _
            have hmN := hmx'.alloc (.cells #[.int .i64 5, .int .i64 0, .int .i64 ok, .int .i64 o1.a, .int .i64 o1.n, .int .i64 ea, .int .i64 en, .int .i64 er] 39)
            have hrN := hrG.alloc (.cells #[.int .i64 5, .int .i64 0, .int .i64 ok, .int .i64 o1.a, .int .i64 o1.n, .int .i64 ea, .int .i64 en, .int .i64 er] 39)
            have hbN : Below K wA (wr.alloc (.cells #[.int .i64 5, .int .i64 0, .int .i64 ok, .int .i64 o1.a, .int .i64 o1.n, .int .i64 ea, .int .i64 en, .int .i64 er] 39)) := hbx.alloc (by omega) _
            have hbW : Below W0.heap.size W0 (wr.alloc (.cells #[.int .i64 5, .int .i64 0, .int .i64 ok, .int .i64 o1.a, .int .i64 o1.n, .int .i64 ea, .int .i64 en, .int .i64 er] 39)) := hbX.alloc hbX.size _
            generalize wr.alloc (.cells #[.int .i64 5, .int .i64 0, .int .i64 ok, .int .i64 o1.a, .int .i64 o1.n, .int .i64 ea, .int .i64 en, .int .i64 er] 39) = wN at *
            obtain ⟨Q, hQ, hQ'⟩ : ∃ Q, Hid (Q = wr.heap.size) ∧ Q = wr.heap.size := ⟨_, Lib.hid rfl, rfl⟩
            rw [← hQ'] at hnR ⊢
            have q0 : wN.cell? ⟨Q, 0, .none⟩ = some (.int .i64 5) := hnR.cell 0
            have q2 : wN.cell? ⟨Q, 2, .none⟩ = some (.int .i64 ok) := hnR.cell 2
            have q3 : wN.cell? ⟨Q, 3, .none⟩ = some (.int .i64 o1.a) := hnR.cell 3
            have q4 : wN.cell? ⟨Q, 4, .none⟩ = some (.int .i64 o1.n) := hnR.cell 4
            have q7 : wN.cell? ⟨Q, 7, .none⟩ = some (.int .i64 er) := hnR.cell 7
            have x0 : wN.cell? ⟨G, 0, .none⟩ = some (.int .i64 ok) := hrN.cell 0
            have x1 : wN.cell? ⟨G, 1, .none⟩ = some (.int .i64 o1.a) := hrN.cell 1
            have x2 : wN.cell? ⟨G, 2, .none⟩ = some (.int .i64 o1.n) := hrN.cell 2
            have k2 : wN.cell? ⟨K, 2, .none⟩ = some (.int .i64 1) := hmN.cell 2
            have k3 : wN.cell? ⟨K, 3, .none⟩ = some (.int .i64 c3) := hmN.cell 3
            have k4 : wN.cell? ⟨K, 4, .none⟩ = some (.int .i64 c4) := hmN.cell 4
            have k5 : wN.cell? ⟨K, 5, .none⟩ = some (.int .i64 1) := hmN.cell 5
            have lQ := hnR.lt
            have lK := hmN.lt
            have lG2 := hrN.lt
            have hfinal := hbz.out _ hbW
            replace hJ := Lib.hid (hJ.out _ hbN)
            clear hnR hmN hrN hbN hbW hQ' hmx' hrG V0 V1 V2 V3 V4 V5 V6 V7 hcl' hcN hbz hG3 hev htwo hidle hbX hbx hbA hcA hmA
            rcases hcs with ⟨rfl, hk2, rfl⟩ | ⟨rfl, hk2, rfl⟩ | ⟨rfl, rfl, hk2, rfl⟩ | ⟨rfl, rfl, hk2, rfl⟩ | ⟨rfl, rfl, rfl, rfl⟩ | ⟨rfl, rfl, rfl, rfl⟩ | ⟨rfl, he0, rfl, rfl⟩
            all_goals
              go_wp2_with (first
                | (go_at_call 14; (with_reducible refine hJ.out.mono ?_); rintro r w99 ⟨rfl, hw99⟩; obtain rfl := hw99.symm; clear hw99)
                | fail)
              go_returns
              first
                | exact ⟨rfl, hfinal⟩
                | exact ⟨(by show Ending.returned (Value.bool (!(er == 0))) = _; rw [show (er == 0) = false by simpa using he0]; rfl), hfinal⟩
    · have hre : k.rests = false := by unfold Kl.rests; rw [hj]; rfl
      rw [hre] at hidle
      have hok := hc.ok
      have hfew := kl_few hok (by have := hbd.out; omega) hj
      rw [← hM.out] at hfew
      have hacts := klStep_ok (m := m) hok hj hc.fi hc.wd.fit
      have honce := once_step (m := m) hI hok hj hc.fi hc.wd.fit
      have hst0 := hok.st
      have hks1 : (k.step s m).1.steps = k.steps + 1 := klStep_n hj
      have hms1 : (k.step s m).2.1.st = k.steps + 1 := by rw [hacts.1.st, hms]
      have wi1 : IntKind.i64.wrap (k.steps + 1) = k.steps + 1 := IntWalk.i64_in _ ⟨by omega, by omega⟩
      have hlt : k.steps < M := by omega
      have hstep := fun W (hcc : CW N F' W q p b s k m) (hrr : RowE N F' W p b u11 all) (hB : N ≤ W.heap.size) => (cw_step hcc hB (by rw [hms]; omega)).mono (fun r w' h => (show ∃ ao n cap F2, r = .returned (.tuple #[.slice ao n cap, .int .i64 0]) ∧ n = (k.step s m).2.2.1.length ∧ RdE w' (.slice ao n cap) (k.step s m).2.2.1 ∧ (CW N F2 w' q p b s (k.step s m).1 (k.step s m).2.1 ∧ RowE N F2 w' p b u11 all) ∧ Below N W w' ∧ N ≤ w'.heap.size by
        obtain ⟨⟨v, e, ho⟩, h2, h3, h4⟩ := h
        obtain ⟨ao, cap, e2, _⟩ := RdS.of_own ho
        subst e2
        rw [honce.2.2.1] at e
        exact ⟨ao, _, cap, _, e, rfl, rdE_own ho, ⟨h2, hrr.only h3⟩, h4, by have := h4.size; omega⟩))
      have hidle2 := fun (k2 : Kl) F2 W (h : KlO F2 W q s k2) => klidle_any h
      obtain ⟨ho1, ho2, _, ho4, ho5⟩ := honce
      generalize (k.step s m).1 = k2 at *
      generalize (k.step s m).2.1 = m2 at *
      generalize (k.step s m).2.2.1 = ys at *
      have hms2 : m2.st = k2.steps := by rw [hms1, hks1]
      have hcase : (k2.rests = false ∧ ys = []) ∨ ∃ pre e, ys = pre ++ [e] ∧ (pre.length = 0 ∨ pre.length = 1 ∨ pre.length = 2) ∧ ((k2.rests = true ∧ e.k = 5) ∨ (k2.rests = false ∧ e.k = 4)) := by
        rcases hr2 : k2.rests with _ | _
        · rcases List.eq_nil_or_concat ys with h | ⟨pre, e, h⟩
          · exact .inl ⟨rfl, h⟩
          · rw [List.concat_eq_append] at h
            refine .inr ⟨pre, e, h, ?_, .inr ⟨rfl, ho5 hr2 e (by rw [h]; simp)⟩⟩
            rw [h] at ho2; simp at ho2; omega
        · obtain ⟨pre, e, h, h2⟩ := ho4 hr2
          refine .inr ⟨pre, e, h, ?_, .inl ⟨rfl, h2⟩⟩
          rw [h] at ho2; simp at ho2; omega
      have hfin : Hid (∀ W F2 v2, CW N F2 W q p b s k2 m2 → RowE N F2 W p b v2 (all ++ ys) → Below N wr W → (∃ (k : Kl) (m : Mem) (F' : Nat → Prop) (all : List Ev), Value.int .i64 (k2.steps) = .int .i64 k.steps ∧ (m.st = k.steps ∧ k.steps ≤ M) ∧ CW N F' W q p b s k m ∧ RowE N F' W p b v2 all ∧ OnceI o1 k all ∧ Below H w W ∧ RowAt W H #[.int .i64 s.p, .int .i64 s.c, .int .i64 s.m] 23 ∧ RowAt W G #[.int .i64 o1.k, .int .i64 o1.a, .int .i64 o1.n] 26)) := Lib.hid fun W F2 v2 h1 h2 hb => by
        exact ⟨k2, m2, F2, all ++ ys, rfl, ⟨hms2, by rw [hks1]; omega⟩, h1, h2, ho1, hbr.trans (hb.mono (by omega)), t0.belB hb lH1, t1.belB hb lG1⟩
      have halen : (all.length : Int) ≤ 2 + 3 * k.steps := hI.len
      have hks : k.steps ≤ 10000 := by omega
      have hal : all.length ≤ 40000 := by omega
      clear ho1 ho4 ho5 hms1 hms2 hacts hfew hok hI hj hre halen
      replace hidle := Lib.hid hidle
      replace hidle2 := Lib.hid hidle2
      replace hstep := Lib.hid hstep
      replace hks1 := Lib.hid hks1
      replace hms := Lib.hid hms
      replace hc := Lib.hid hc
      replace hro := Lib.hid hro
      go_upto_region 16 with (first
        | (go_at_call 13; (with_reducible refine (hrs.out _).mono ?_); rintro r w8 ⟨rfl, hb8⟩; have hc8 := hc.out.below hb8; have hro8 := hro.out.below hb8)
        | (go_at_call 14; (with_reducible refine (hidle.out _ hc8.kl).mono ?_); rintro r w9 ⟨rfl, hw9⟩; obtain rfl := hw9.symm; clear hw9)
        | fail)
      have hb8N : Below N wr w8 := hb8.mono hlr
      have hl8 : N ≤ w8.heap.size := by have := hb8.size; omega
      replace hstep := Lib.hid (hstep.out _ hc8 hro8 hl8)
      clear hc hro hc8 hro8 hb8 c0 c1 c2 t0 t1 hidle
      rcases hcase with ⟨hrs2, hys⟩ | ⟨pre, e, hys, hpre, hrk⟩
      · have hid := fun F2 W => hidle2.out k2 F2 W
        rw [hrs2] at hid
        replace hid := Lib.hid hid
        replace hys := Lib.hid hys
        clear hidle2 hrs2
        go_wp2_with (first
          | (go_at_call 15; (with_reducible refine hstep.out.mono ?_); rintro r w9 ⟨a9, n9, k9, F9, rfl, hn9, hr9, ⟨hc9, hro9⟩, hb9, hl9⟩; obtain rfl : n9 = 0 := (by rw [hn9, hys.out]; rfl); replace hn9 := Lib.hid hn9)
          | (go_at_call 14; (with_reducible refine (hid.out _ _ hc9.kl).mono ?_); rintro r w99 ⟨rfl, hw99⟩; obtain rfl := hw99.symm; clear hw99)
          | (refine wpList_append_rd rfl (.tmp 112) (.tmp 113) 34 rfl N 39 i0 _ 8 64 Tryz.underlying34 hi0 hz0 hz1 hz2 rfl (by omega) _ all.length _ rfl hro9.own _ ys.length _ rfl hr9 (evOnes ys) (by simp only [maxLen]; omega) (by omega) hl9 ?_; intro v10 w10 hown10 hgrow10 hat10)
          | fail)
        have hput := hro9.put hc9 hgrow10 hown10 hat10
        refine ⟨?_, by simp only [intOf]; omega⟩
        rw [← hks1.out]
        exact hfin.out _ _ _ hput.1 hput.2 (hb8N.trans (grown_belowS hb9 hro9.own hl9 hgrow10))
      · have hpl : pre.length < ys.length := by rw [hys]; simp
        have hyl : ys.length = pre.length + 1 := by rw [hys]; simp
        have hye : ys[pre.length] = e := by simp [hys]
        rcases hpre with hL | hL | hL
        · rcases hrk with ⟨hrs2, hek⟩ | ⟨hrs2, hek⟩
          all_goals
            have hid := fun F2 W => hidle2.out k2 F2 W
            rw [hrs2] at hid
            replace hid := Lib.hid hid
            replace hys := Lib.hid hys
            replace hyl := Lib.hid hyl
            replace hye := Lib.hid hye
            replace hL := Lib.hid hL
            replace hek := Lib.hid hek
            clear hidle2 hrs2
            have hcl : Hid (∀ W a n k, RdE W (.slice a n k) ys → n = ys.length → ∃ g o, a = some ⟨g, o, .none⟩ ∧ n = 1 ∧ g < W.heap.size ∧ W.cell? ⟨g, o, .none⟩ = some (.int .i64 e.k)) := Lib.hid fun W a n k h hn => by
              obtain ⟨a2, c2, h1, _, _, h2⟩ := h.nth
              obtain ⟨g, o, h3, h4, h5⟩ := h2 (by intro e0; rw [e0] at hpl; simp at hpl)
              injection h1 with h6 _ _
              have h7 := h5 pre.length hpl 0 (by omega)
              rw [hye.out] at h7
              refine ⟨g, o, h6.trans h3, by rw [hn, hyl.out, hL.out], h4, ?_⟩
              rw [hL.out] at h7
              simpa [Ev.cells] using h7
            rw [hek.out] at hcl
            go_wp2_with (first
              | (go_at_call 15; (with_reducible refine hstep.out.mono ?_); rintro r w9 ⟨a9, n9, k9, F9, rfl, hn9, hr9, ⟨hc9, hro9⟩, hb9, hl9⟩; obtain ⟨g9, o9, rfl, rfl, lg9, z9⟩ := hcl.out _ _ _ _ hr9 hn9; replace hn9 := Lib.hid hn9)
              | (go_at_call 14; (with_reducible refine (hid.out _ _ hc9.kl).mono ?_); rintro r w99 ⟨rfl, hw99⟩; obtain rfl := hw99.symm; clear hw99)
              | (refine wpList_append_rd rfl (.tmp 112) (.tmp 113) 34 rfl N 39 i0 _ 8 64 Tryz.underlying34 hi0 hz0 hz1 hz2 rfl (by omega) _ all.length _ rfl hro9.own _ ys.length _ rfl hr9 (evOnes ys) (by simp only [maxLen]; omega) (by omega) hl9 ?_; intro v10 w10 hown10 hgrow10 hat10)
              | fail)
            have hput := hro9.put hc9 hgrow10 hown10 hat10
            refine ⟨?_, by simp only [intOf]; omega⟩
            rw [← hks1.out]
            exact hfin.out _ _ _ hput.1 hput.2 (hb8N.trans (grown_belowS hb9 hro9.own hl9 hgrow10))
        · rcases hrk with ⟨hrs2, hek⟩ | ⟨hrs2, hek⟩
          all_goals
            have hid := fun F2 W => hidle2.out k2 F2 W
            rw [hrs2] at hid
            replace hid := Lib.hid hid
            replace hys := Lib.hid hys
            replace hyl := Lib.hid hyl
            replace hye := Lib.hid hye
            replace hL := Lib.hid hL
            replace hek := Lib.hid hek
            clear hidle2 hrs2
            have hcl : Hid (∀ W a n k, RdE W (.slice a n k) ys → n = ys.length → ∃ g o, a = some ⟨g, o, .none⟩ ∧ n = 2 ∧ g < W.heap.size ∧ W.cell? ⟨g, o + 8, .none⟩ = some (.int .i64 e.k)) := Lib.hid fun W a n k h hn => by
              obtain ⟨a2, c2, h1, _, _, h2⟩ := h.nth
              obtain ⟨g, o, h3, h4, h5⟩ := h2 (by intro e0; rw [e0] at hpl; simp at hpl)
              injection h1 with h6 _ _
              have h7 := h5 pre.length hpl 0 (by omega)
              rw [hye.out] at h7
              refine ⟨g, o, h6.trans h3, by rw [hn, hyl.out, hL.out], h4, ?_⟩
              rw [hL.out] at h7
              simpa [Ev.cells] using h7
            rw [hek.out] at hcl
            go_wp2_with (first
              | (go_at_call 15; (with_reducible refine hstep.out.mono ?_); rintro r w9 ⟨a9, n9, k9, F9, rfl, hn9, hr9, ⟨hc9, hro9⟩, hb9, hl9⟩; obtain ⟨g9, o9, rfl, rfl, lg9, z9⟩ := hcl.out _ _ _ _ hr9 hn9; replace hn9 := Lib.hid hn9)
              | (go_at_call 14; (with_reducible refine (hid.out _ _ hc9.kl).mono ?_); rintro r w99 ⟨rfl, hw99⟩; obtain rfl := hw99.symm; clear hw99)
              | (refine wpList_append_rd rfl (.tmp 112) (.tmp 113) 34 rfl N 39 i0 _ 8 64 Tryz.underlying34 hi0 hz0 hz1 hz2 rfl (by omega) _ all.length _ rfl hro9.own _ ys.length _ rfl hr9 (evOnes ys) (by simp only [maxLen]; omega) (by omega) hl9 ?_; intro v10 w10 hown10 hgrow10 hat10)
              | fail)
            have hput := hro9.put hc9 hgrow10 hown10 hat10
            refine ⟨?_, by simp only [intOf]; omega⟩
            rw [← hks1.out]
            exact hfin.out _ _ _ hput.1 hput.2 (hb8N.trans (grown_belowS hb9 hro9.own hl9 hgrow10))
        · rcases hrk with ⟨hrs2, hek⟩ | ⟨hrs2, hek⟩
          all_goals
            have hid := fun F2 W => hidle2.out k2 F2 W
            rw [hrs2] at hid
            replace hid := Lib.hid hid
            replace hys := Lib.hid hys
            replace hyl := Lib.hid hyl
            replace hye := Lib.hid hye
            replace hL := Lib.hid hL
            replace hek := Lib.hid hek
            clear hidle2 hrs2
            have hcl : Hid (∀ W a n k, RdE W (.slice a n k) ys → n = ys.length → ∃ g o, a = some ⟨g, o, .none⟩ ∧ n = 3 ∧ g < W.heap.size ∧ W.cell? ⟨g, o + 16, .none⟩ = some (.int .i64 e.k)) := Lib.hid fun W a n k h hn => by
              obtain ⟨a2, c2, h1, _, _, h2⟩ := h.nth
              obtain ⟨g, o, h3, h4, h5⟩ := h2 (by intro e0; rw [e0] at hpl; simp at hpl)
              injection h1 with h6 _ _
              have h7 := h5 pre.length hpl 0 (by omega)
              rw [hye.out] at h7
              refine ⟨g, o, h6.trans h3, by rw [hn, hyl.out, hL.out], h4, ?_⟩
              rw [hL.out] at h7
              simpa [Ev.cells] using h7
            rw [hek.out] at hcl
            go_wp2_with (first
              | (go_at_call 15; (with_reducible refine hstep.out.mono ?_); rintro r w9 ⟨a9, n9, k9, F9, rfl, hn9, hr9, ⟨hc9, hro9⟩, hb9, hl9⟩; obtain ⟨g9, o9, rfl, rfl, lg9, z9⟩ := hcl.out _ _ _ _ hr9 hn9; replace hn9 := Lib.hid hn9)
              | (go_at_call 14; (with_reducible refine (hid.out _ _ hc9.kl).mono ?_); rintro r w99 ⟨rfl, hw99⟩; obtain rfl := hw99.symm; clear hw99)
              | (refine wpList_append_rd rfl (.tmp 112) (.tmp 113) 34 rfl N 39 i0 _ 8 64 Tryz.underlying34 hi0 hz0 hz1 hz2 rfl (by omega) _ all.length _ rfl hro9.own _ ys.length _ rfl hr9 (evOnes ys) (by simp only [maxLen]; omega) (by omega) hl9 ?_; intro v10 w10 hown10 hgrow10 hat10)
              | fail)
            have hput := hro9.put hc9 hgrow10 hown10 hat10
            refine ⟨?_, by simp only [intOf]; omega⟩
            rw [← hks1.out]
            exact hfin.out _ _ _ hput.1 hput.2 (hb8N.trans (grown_belowS hb9 hro9.own hl9 hgrow10))
end Go.Proofs.YtcgakbgmdabnkaaGreat

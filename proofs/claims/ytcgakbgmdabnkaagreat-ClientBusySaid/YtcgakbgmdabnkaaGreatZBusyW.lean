/- Who has an operation takes no other one: the walk of ClientBusy. -/
import Derived.Test.YtcgakbgmdabnkaaGreatBn47

set_option linter.all false
namespace Go.Proofs.YtcgakbgmdabnkaaGreat

open Go.RowKit

attribute [local go_sem ↓] Go.wp_at_zero Go.wp_at_succ

set_option maxRecDepth 100000 in
set_option maxHeartbeats 8000000 in
theorem busy_any (s : Sh) (zs : List Int) (o1 o2 : Op3) (v : Value) (w : World) (hr : RdZ .u64 w v zs) (hz : (memOf zs).fit) :
    Calls Tryz.prog 4 #[.agg #[.int .i64 s.p, .int .i64 s.c, .int .i64 s.m], v, .agg #[.int .i64 o1.k, .int .i64 o1.a, .int .i64 o1.n, .int .i64 o2.k, .int .i64 o2.a, .int .i64 o2.n]] w fun e w' => e = .returned (.bool true) ∧ Below w.heap.size w w' := by
  have haw := fun W => awake20 W
  obtain ⟨ao, cap, rfl, hcap, hcm, hcell⟩ := hr.cells
  obtain ⟨n, hn, hn'⟩ : ∃ n, Hid (n = zs.length) ∧ n = zs.length := ⟨_, Lib.hid rfl, rfl⟩
  rw [← hn'] at hcap hr ⊢
  clear hn' hcell
  have hfa := fun W => fair_any s ao n cap W
  have hb0 := ((Below.refl w.heap.size w).alloc (Nat.le_refl _) (.cells #[.int .i64 s.p, .int .i64 s.c, .int .i64 s.m] 23)).alloc (by simp) (.cells #[.int .i64 o1.k, .int .i64 o1.a, .int .i64 o1.n, .int .i64 o2.k, .int .i64 o2.a, .int .i64 o2.n] 44)
  replace haw := Lib.hid haw
  replace hfa := Lib.hid hfa
  replace hr := Lib.hid hr
  go_enter Tryz.func4, Tryz.ntmps4
  go_upto_region 1 with fail
  have t0 : RowAt ((w.alloc (.cells #[.int .i64 s.p, .int .i64 s.c, .int .i64 s.m] 23)).alloc (.cells #[.int .i64 o1.k, .int .i64 o1.a, .int .i64 o1.n, .int .i64 o2.k, .int .i64 o2.a, .int .i64 o2.n] 44)) w.heap.size #[.int .i64 s.p, .int .i64 s.c, .int .i64 s.m] 23 := RowAt.alloc (heap_alloc_new _ _) _
  have t1 : RowAt ((w.alloc (.cells #[.int .i64 s.p, .int .i64 s.c, .int .i64 s.m] 23)).alloc (.cells #[.int .i64 o1.k, .int .i64 o1.a, .int .i64 o1.n, .int .i64 o2.k, .int .i64 o2.a, .int .i64 o2.n] 44)) (w.heap.size + 1) #[.int .i64 o1.k, .int .i64 o1.a, .int .i64 o1.n, .int .i64 o2.k, .int .i64 o2.a, .int .i64 o2.n] 44 := by
    have h := heap_alloc_new (w.alloc (.cells #[.int .i64 s.p, .int .i64 s.c, .int .i64 s.m] 23)) (.cells #[.int .i64 o1.k, .int .i64 o1.a, .int .i64 o1.n, .int .i64 o2.k, .int .i64 o2.a, .int .i64 o2.n] 44)
    rw [show (w.alloc (.cells #[.int .i64 s.p, .int .i64 s.c, .int .i64 s.m] 23)).heap.size = w.heap.size + 1 by simp] at h
    exact h
  have hrX := Lib.hid (RdS.below hr.out (w' := (w.alloc (.cells #[.int .i64 s.p, .int .i64 s.c, .int .i64 s.m] 23)).alloc (.cells #[.int .i64 o1.k, .int .i64 o1.a, .int .i64 o1.n, .int .i64 o2.k, .int .i64 o2.a, .int .i64 o2.n] 44)) (by exact hb0))
  clear hr
  generalize (w.alloc (.cells #[.int .i64 s.p, .int .i64 s.c, .int .i64 s.m] 23)).alloc (.cells #[.int .i64 o1.k, .int .i64 o1.a, .int .i64 o1.n, .int .i64 o2.k, .int .i64 o2.a, .int .i64 o2.n] 44) = X at *
  obtain ⟨G, hG, hG'⟩ : ∃ G, Hid (G = w.heap.size + 1) ∧ G = w.heap.size + 1 := ⟨_, Lib.hid rfl, rfl⟩
  rw [← hG'] at t1 ⊢
  clear hG'
  obtain ⟨H, hH, hH'⟩ : ∃ H, Hid (H = w.heap.size) ∧ H = w.heap.size := ⟨_, Lib.hid rfl, rfl⟩
  rw [← hH'] at t0 hb0 ⊢
  clear hH'
  have lH := t0.lt
  have lG := t1.lt
  go_upto_region 3 with (first
    | (go_at_call 8; (with_reducible refine (haw.out _).mono ?_); rintro r w1 ⟨rfl, hb1⟩)
    | fail)
  replace t0 := t0.below hb1
  replace t1 := t1.below hb1
  replace hrX := Lib.hid (RdS.below hrX.out hb1)
  have hb1' : Below H w w1 := hb0.trans (hb1.mono (by omega))
  have lH1 := t0.lt
  have lG1 := t1.lt
  clear haw hb0 hb1 lH lG
  have c0 : w1.cell? ⟨H, 0, .none⟩ = some (.int .i64 s.p) := t0.cell 0
  have c1 : w1.cell? ⟨H, 1, .none⟩ = some (.int .i64 s.c) := t0.cell 1
  have c2 : w1.cell? ⟨H, 2, .none⟩ = some (.int .i64 s.m) := t0.cell 2
  rcases hcs : fairB s n with _ | _
  · rw [hcs] at hfa
    go_wp2_with (first
      | (go_at_call 9; (with_reducible refine (hfa.out _).mono ?_); rintro r w2 ⟨rfl, hb2⟩)
      | fail)
    go_returns
    exact ⟨rfl, by rw [← hH.out]; exact hb1'.trans (hb2.mono (by omega))⟩
  rw [hcs] at hfa
  have hfair : mayB s.p s.c s.m = true ∧ (n : Int) = totalV s.p s.c s.m := by simpa [fairB] using hcs
  have hfit : Fits s (memOf zs) := ⟨hfair.1, by rw [← hfair.2, hn.out]; rfl⟩
  have htot := lwTotal_bd hfair.1
  have hzl : zs.length ≤ 2000 := by rw [← hn.out]; omega
  have hbd := hfit.bd
  have hfl := fun v w hr => fill_any zs v w hr hz hzl
  replace hfl := Lib.hid hfl
  replace hfair := Lib.hid hfair
  clear hcs htot hzl
  replace hbd := Lib.hid hbd
  go_upto_region 6 with (first
    | (go_at_call 9; (with_reducible refine (hfa.out _).mono ?_); rintro r w2 ⟨rfl, hb2⟩; have hr2 := (show RdZ .u64 w2 (.slice ao n cap) zs from RdS.below hrX.out hb2))
    | (go_at_call 10; (with_reducible refine (hfl.out _ _ hr2).mono ?_); rintro r w3 ⟨p1, b1, rfl, hw3, hp3, hb3, hB3⟩)
    | fail)
  have hb2' : Below H w w2 := hb1'.trans (hb2.mono (by omega))
  have hbx2 := hb2
  have hb3' : Below H w w3 := hb2'.trans (hB3.mono (by have := hb2.size; omega))
  have hb23 : Below w1.heap.size w1 w3 := hb2.trans (hB3.mono hb2.size)
  replace t0 := t0.below hb23
  replace t1 := t1.below hb23
  have hr3 := Lib.hid (RdS.below hr2 hB3)
  have hs2 := hb2.size
  replace hp3 : w1.heap.size ≤ p1 := by omega
  replace hb3 : w1.heap.size ≤ b1 := by omega
  have hs3 := hB3.size
  clear hfa hrX hr2 hb2 hB3 hb1' hbx2 hb2' hb23 c0 c1 c2
  have lH3 := t0.lt
  have lG3 := t1.lt
  have hkn : ∀ (x : Nat) W, Calls Tryz.prog 11 #[.agg #[.int .i64 s.p, .int .i64 s.c, .int .i64 s.m], .int .i64 0, F64 x] W fun e w' => ∃ q, e = .returned (.pointer (some ⟨q, 0, .none⟩)) ∧ KlO (fun i => W.heap.size ≤ i ∧ i < w'.heap.size) w' q s (klNew 0 (Fl.shareI x s.p)) ∧ Below W.heap.size W w' := fun x W => (klnew_any s 0 x W (by have := hbd.out; omega)).mono fun e w' h => by
    obtain ⟨h1, h2⟩ := h
    rw [if_neg (by rw [status_in hfair.out.1 (by have := hbd.out; omega)]; omega)] at h2
    obtain ⟨q, e, h3⟩ := h2
    exact ⟨q, e, h3, h1⟩
  dsimp only [F64] at hkn
  replace hkn := Lib.hid hkn
  have hK : ∀ Y : World, Below w3.heap.size w3 Y → (Y.cell? ⟨H, 0, .none⟩ = some (.int .i64 s.p) ∧ Y.cell? ⟨H, 1, .none⟩ = some (.int .i64 s.c) ∧ Y.cell? ⟨H, 2, .none⟩ = some (.int .i64 s.m)) := fun Y hb => ⟨(t0.below hb).cell 0, (t0.below hb).cell 1, (t0.below hb).cell 2⟩
  replace hK := Lib.hid hK
  go_region_held3 (fun Y => Y.cell? ⟨H, 0, .none⟩ = some (.int .i64 s.p) ∧ Y.cell? ⟨H, 1, .none⟩ = some (.int .i64 s.c) ∧ Y.cell? ⟨H, 2, .none⟩ = some (.int .i64 s.m))
    (first | exact hK.out _ (Below.refl _ _).drew | exact hK.out _ ((Below.refl _ _).drew.trans (hb4.mono (Nat.le_refl _))) | exact hK.out _ (((Below.refl _ _).drew.trans (hb4.mono (Nat.le_refl _))).trans (hb5.mono (hb4.size))) | fail)
    (first
      | (go_at_call 11; (with_reducible refine (hkn.out _ _).mono ?_); first
        | (rintro r w5 ⟨q2, rfl, hk5, hb5⟩; have hb4s := hb4.size)
        | (rintro r w4 ⟨q1, rfl, hk4, hb4⟩))
      | fail)
  clear hK hkn
  have hf0 := Fl.shareI_bd 4599075939470750515 (n := s.p) (by have := hbd.out; omega)
  generalize Fl.shareI 4599075939470750515 s.p = f0 at *
  replace hf0 := Lib.hid hf0
  have hs3d : w3.drew.heap.size = w3.heap.size := rfl
  rw [hs3d] at hk4 hb4 hb4s
  have hb4' : Below w3.heap.size w3 w4 := (Below.refl _ _).drew.trans hb4
  have hbw5 : Below H w w5 := hb3'.trans ((hb4'.trans (hb5.mono hb4s)).mono (by omega))
  replace hr3 := Lib.hid (show RdZ .u64 w5 (.slice ao n cap) zs from RdS.below (RdS.below hr3.out hb4') hb5)
  replace t0 := (t0.below hb4').below hb5
  replace t1 := (t1.below hb4').below hb5
  have hs45 := hb5.size
  have hcA : CW w1.heap.size (fun i => w3.heap.size ≤ i ∧ i < w4.heap.size) w5 q1 p1 b1 s (klNew 0 f0) (memOf zs) :=
    ⟨hk4.below hb5, (hw3.below hb4').below hb5, fun e => by have := hw3.ltp; omega, fun e => by have := hw3.ltb; omega, fun i hi => by omega, by omega, by omega, klNew_ok (by have := hbd.out; omega) hf0.out, hfit⟩
  have hkB := hk5
  have hlow : w3.heap.size ≤ w4.heap.size := hb4s
  have lp3 := hw3.ltp
  have lb3 := hw3.ltb
  clear hk4 hk5 hb4 hb4' hb5 hs3d hw3 hb4s hb3'
  go_upto_region 8 with (first
    | (go_at_call 10; (with_reducible refine (hfl.out _ _ hr3.out).mono ?_); rintro r w6 ⟨p2, b2, rfl, hw6, hp6, hb6, hB6⟩)
    | fail)
  have hduo : Duo w1.heap.size (fun i => w3.heap.size ≤ i ∧ i < w4.heap.size) (fun i => w4.heap.size ≤ i ∧ i < w5.heap.size) w6 q1 p1 b1 q2 p2 b2 s (klNew 0 f0) (memOf zs) (klNew 0 f0) (memOf zs) :=
    ⟨hcA.below hB6, ⟨hkB.below hB6, hw6, fun e => by omega, fun e => by omega, fun i hi => by omega, by omega, by omega, klNew_ok (by have := hbd.out; omega) hf0.out, hfit⟩, fun i hi hg => by omega⟩
  replace t0 := t0.below hB6
  replace t1 := t1.below hB6
  have hbw6 : Below H w w6 := hbw5.trans (hB6.mono (by omega))
  have hl6 : w1.heap.size ≤ w6.heap.size := by have := hB6.size; omega
  generalize (fun i => w3.heap.size ≤ i ∧ i < w4.heap.size) = Fa at *
  generalize (fun i => w4.heap.size ≤ i ∧ i < w5.heap.size) = Fb at *
  clear hfl hr3 hs45 hcA hkB hlow lp3 lb3 hw6 hp6 hb6 hB6 hbw5 hs3 hp3 hb3 hs2 lH3 lG3
  generalize w1.heap.size = N at *
  have hst := (duo_step hduo hl6 (by show (0 : Int) < 1000000000; omega)).mono fun r w' h => h.none rfl
  have hws := wsteps_any p1 b1 (memOf zs)
  have hnil1 : ∀ (p : Nat) (W : World), (binOp .eql 29 (.pointer (some ⟨p, 0, .none⟩)) (.pointer none)).run Tryz.prog W = .ok (.bool false) W := fun p W => by kernel_rfl
  have hnil2 : ∀ (p : Nat) (W : World), (binOp .eql 31 (.pointer (some ⟨p, 0, .none⟩)) (.pointer none)).run Tryz.prog W = .ok (.bool false) W := fun p W => by kernel_rfl
  replace hst := Lib.hid hst
  clear hduo
  go_upto_region 11 with (first
    | (go_at_call 15; (with_reducible refine hst.out.mono ?_); rintro r w7 ⟨ao7, k7, F7, rfl, hd7, hb7, hl7⟩)
    | fail)
  clear hst
  replace t0 := t0.belB hb7 lH1
  replace t1 := t1.belB hb7 lG1
  obtain ⟨e1, he1, he1'⟩ : ∃ e1, Hid (((klNew 0 f0).invoke s o1).2.2 = e1) ∧ ((klNew 0 f0).invoke s o1).2.2 = e1 := ⟨_, Lib.hid rfl, rfl⟩
  obtain ⟨k1, hk1, hk1'⟩ : ∃ k1, Hid (((klNew 0 f0).invoke s o1).1 = k1) ∧ ((klNew 0 f0).invoke s o1).1 = k1 := ⟨_, Lib.hid rfl, rfl⟩
  have haA := Lib.hid (duo_ask1 o1 hk1' he1' hd7 hl7)
  have haB := Lib.hid (fun W F' F'' (h : Duo N F' F'' W q1 p1 b1 q2 p2 b2 s k1 (memOf zs) (klNew 0 f0) (memOf zs)) (hB : N ≤ W.heap.size) => duo_ask2 o1 hk1' he1' h hB)
  have hk0 : Hid (k1.steps = 0) := Lib.hid (by rw [← hk1']; exact klAsk_new _ _ _)
  clear hk1' he1'
  have hws' : Hid (∀ w : World, WdsAt w p1 b1 (memOf zs) → Calls Tryz.prog 16 #[.pointer (some ⟨p1, 0, .none⟩)] w fun e w' => e = .returned (.int .i64 0) ∧ w' = w) := Lib.hid hws
  clear hws
  have x0 : w7.cell? ⟨G, 0, .none⟩ = some (.int .i64 o1.k) := t1.cell 0
  have x1 : w7.cell? ⟨G, 1, .none⟩ = some (.int .i64 o1.a) := t1.cell 1
  have x2 : w7.cell? ⟨G, 2, .none⟩ = some (.int .i64 o1.n) := t1.cell 2
  have hbw7 : Below H w w7 := hbw6.trans (hb7.mono (by omega))
  clear hd7
  go_upto_region 12 with (first
    | (go_at_call 12; (with_reducible refine haA.out.mono ?_); rintro r w8 ⟨ao8, n8, k8, F8, rfl, hn8, hd8, hb8, hl8⟩)
    | fail)
  replace t0 := t0.belB hb8 lH1
  replace t1 := t1.belB hb8 lG1
  replace x0 : w8.cell? ⟨G, 0, .none⟩ = some (.int .i64 o1.k) := t1.cell 0
  replace x1 : w8.cell? ⟨G, 1, .none⟩ = some (.int .i64 o1.a) := t1.cell 1
  replace x2 : w8.cell? ⟨G, 2, .none⟩ = some (.int .i64 o1.n) := t1.cell 2
  have haB := Lib.hid (haB.out _ _ _ hd8 hl8)
  clear hd8
  go_upto_region 15 with (first
    | (go_at_call 12; (with_reducible refine haB.out.mono ?_); rintro r w9 ⟨ao9, n9, k9, F9, rfl, hd9, hb9, hl9⟩; have hw9 := hd9.ca.wd)
    | (go_at_call 16; (with_reducible refine (hws'.out _ hw9).mono ?_); rintro r w10 ⟨rfl, hw10⟩; obtain rfl := hw10.symm)
    | fail)
  replace t0 := t0.belB hb9 lH1
  replace t1 := t1.belB hb9 lG1
  have hbw9 : Below H w w9 := (hbw7.trans (hb8.mono (by omega))).trans (hb9.mono (by omega))
  clear haA haB x0 x1 x2 hws' hb7 hb8 hb9 hbw6 hbw7 hl6 hl7 hl8
  clear hn8 hw9 hw10
  have hrs := Lib.hid (fun W => ref20Steps_any s hfair.out.1 W)
  have hs0 := hbd.out
  obtain ⟨M, hM, hM'⟩ : ∃ M : Int, Hid (M = 110 * s.p + 4 * s.m + 60) ∧ M = 110 * s.p + 4 * s.m + 60 := ⟨_, Lib.hid rfl, rfl⟩
  rw [← hM'] at hrs
  have hMb : M ≤ 10000 := by omega
  clear hM' hs0
  go_wp2
  go_loopw [17] (fun v17 wr => ∃ (k : Kl) (m : Mem) (F' G' : Nat → Prop), v17 = .int .i64 k.steps ∧ m.st = k.steps ∧ Duo N F' G' wr q1 p1 b1 q2 p2 b2 s k m k m ∧ Below H w wr ∧ RowAt wr H #[.int .i64 s.p, .int .i64 s.c, .int .i64 s.m] 23 ∧ RowAt wr G #[.int .i64 o1.k, .int .i64 o1.a, .int .i64 o1.n, .int .i64 o2.k, .int .i64 o2.a, .int .i64 o2.n] 44) (fun v17 _ => (M - intOf v17).toNat)
  case atStart => exact ⟨k1, memOf zs, F8, F9, by rw [hk0.out], by rw [hk0.out]; rfl, hd9, hbw9, t0, t1⟩
  case round =>
    clear t0 t1 hd9 hbw9 hl9
    obtain ⟨k, m, F', G', rfl, hms, hd, hbr, t0, t1⟩ := hrel
    have hlr : N ≤ wr.heap.size := by have := hd.ca.lp; have := hd.ca.wd.ltp; omega
    have lHr := t0.lt
    have lGr := t1.lt
    have c0 : wr.cell? ⟨H, 0, .none⟩ = some (.int .i64 s.p) := t0.cell 0
    have c1 : wr.cell? ⟨H, 1, .none⟩ = some (.int .i64 s.c) := t0.cell 1
    have c2 : wr.cell? ⟨H, 2, .none⟩ = some (.int .i64 s.m) := t0.cell 2
    have hid1 := fun W (h : Duo N F' G' W q1 p1 b1 q2 p2 b2 s k m k m) => klidle_any h.ca.kl
    rcases hj : k.job with _ | j
    · have hre : k.rests = true := by unfold Kl.rests; rw [hj]; rfl
      rw [hre] at hid1
      have hid2 := fun W (h : Duo N F' G' W q1 p1 b1 q2 p2 b2 s k m k m) => klidle_any h.cb.kl
      rw [hre] at hid2
      have hst1 := fun W (h : Duo N F' G' W q1 p1 b1 q2 p2 b2 s k m k m) => klsteps_any h.ca.kl
      have hst2 := fun W (h : Duo N F' G' W q1 p1 b1 q2 p2 b2 s k m k m) => klsteps_any h.cb.kl
      have hws := fun W (h : Duo N F' G' W q1 p1 b1 q2 p2 b2 s k m k m) => wsteps_any p1 b1 m W h.ca.wd
      rw [hms] at hws
      have hal1 := fun W (h : Duo N F' G' W q1 p1 b1 q2 p2 b2 s k m k m) => wall_any p1 b1 m W h.ca.wd
      have hal2 := fun W (h : Duo N F' G' W q1 p1 b1 q2 p2 b2 s k m k m) => wall_any p2 b2 m W h.cb.wd
      replace hid1 := Lib.hid hid1
      replace hid2 := Lib.hid hid2
      replace hst1 := Lib.hid hst1
      replace hst2 := Lib.hid hst2
      replace hws := Lib.hid hws
      replace hal1 := Lib.hid hal1
      replace hal2 := Lib.hid hal2
      have hsm := Lib.hid (fun v u W => sameWords_eq m.ws v u W)
      clear hms hj hre
      generalize k.steps = ks at *
      replace hd := Lib.hid hd
      have hlt : Hid ((ks < M) ∨ ¬ (ks < M)) := Lib.hid (Decidable.em _)
      have hend : Hid (∀ w', Below wr.heap.size wr w' → Below w.heap.size w w') := Lib.hid fun w' h => by rw [← hH.out]; exact hbr.trans (h.mono (by omega))
      rcases hlt.out with hlt | hlt
      all_goals
        go_wp2_with (first
          | (go_at_call 13; (with_reducible refine (hrs.out _).mono ?_); rintro r w2 ⟨rfl, hb2⟩; have hd2 := hd.out.below hb2)
          | (go_at_call 14; first
              | (with_reducible refine (hid1.out _ hd2).mono ?_)
              | (with_reducible refine (hid2.out _ hd2).mono ?_)
             rintro r w9 ⟨rfl, hw9⟩; obtain rfl := hw9.symm; clear hw9)
          | (go_at_call 19; first
              | ((with_reducible refine (hal2.out _ hd3).mono ?_); rintro r w4 ⟨v4, rfl, hb4, ho4⟩; have hd4 := hd3.below hb4; have hr3 := (show RdZ .u64 w4 v3 m.ws from RdS.below (RdS.of_own ho3) hb4); have hr4 := (show RdZ .u64 w4 v4 m.ws from RdS.of_own ho4))
              | ((with_reducible refine (hal1.out _ hd2).mono ?_); rintro r w3 ⟨v3, rfl, hb3, ho3⟩; have hd3 := hd2.below hb3))
          | (go_at_call 18; (with_reducible refine (hsm.out _ _ _ hr3 hr4).mono ?_); rintro r w5 ⟨rfl, hb5⟩; have hd5 := hd4.below hb5)
          | (go_at_call 20; first
              | (with_reducible refine (hst1.out _ hd5).mono ?_)
              | (with_reducible refine (hst2.out _ hd5).mono ?_)
             rintro r w8 ⟨rfl, hw8⟩; obtain rfl := hw8.symm; clear hw8)
          | (go_at_call 16; (with_reducible refine (hws.out _ hd5).mono ?_); rintro r w8 ⟨rfl, hw8⟩; obtain rfl := hw8.symm; clear hw8)
          | fail)
        go_returns
        exact ⟨rfl, hend.out _ (belowTrans (belowTrans (belowTrans hb2 hb3) hb4) hb5)⟩
    · have hre : k.rests = false := by unfold Kl.rests; rw [hj]; rfl
      rw [hre] at hid1
      have hok := hd.ca.ok
      have hfew := kl_few hok (by have := hbd.out; omega) hj
      rw [← hM.out] at hfew
      have hacts := klStep_ok (m := m) hok hj hd.ca.fi hd.ca.wd.fit
      have hst0 := hok.st
      have hks1 : (k.step s m).1.steps = k.steps + 1 := klStep_n hj
      have hms1 : (k.step s m).2.1.st = k.steps + 1 := by rw [hacts.1.st, hms]
      have hask := fun W (h : Duo N F' G' W q1 p1 b1 q2 p2 b2 s k m k m) hB => duo_ask1 (B := N) (F := F') (G := G') (W := W) o2 (by rw [klAsk_busy hj] : (k.invoke s o2).1 = k) (by rw [klAsk_busy hj] : (k.invoke s o2).2.2 = 4) h hB
      have hlen : (k.invoke s o2).2.1.length = 0 := by rw [klAsk_busy hj]; rfl
      rw [hlen] at hask
      obtain ⟨k1, hk1, hk1'⟩ : ∃ k1, Hid ((k.step s m).1 = k1) ∧ (k.step s m).1 = k1 := ⟨_, Lib.hid rfl, rfl⟩
      obtain ⟨m1, hm1, hm1'⟩ : ∃ m1, Hid ((k.step s m).2.1 = m1) ∧ (k.step s m).2.1 = m1 := ⟨_, Lib.hid rfl, rfl⟩
      obtain ⟨xs, hxs, hxs'⟩ : ∃ xs, Hid ((k.step s m).2.2.1 = xs) ∧ (k.step s m).2.2.1 = xs := ⟨_, Lib.hid rfl, rfl⟩
      have hstA := fun W F' (h : Duo N F' G' W q1 p1 b1 q2 p2 b2 s k m k m) hB => duo_step1 (B := N) (F := F') (G := G') (W := W) hk1' hm1' hxs' h hB (by rw [hms]; omega)
      have hstB := fun W F' (h : Duo N F' G' W q1 p1 b1 q2 p2 b2 s k1 m1 k m) hB => duo_step2 (B := N) (F := F') (G := G') (W := W) hk1' hm1' hxs' h hB (by rw [hms]; omega)
      rw [hk1'] at hks1
      rw [hm1'] at hms1
      have hev := fun v u W => events_eq xs v u W
      have hms1' : m1.st = k1.steps := by rw [hms1, hks1]
      have wi1 : IntKind.i64.wrap (k.steps + 1) = k.steps + 1 := IntWalk.i64_in _ ⟨by omega, by omega⟩
      have hlt : k.steps < M := by omega
      have hfin : Hid (∀ W F2 G2, Duo N F2 G2 W q1 p1 b1 q2 p2 b2 s k1 m1 k1 m1 → Below N wr W → (∃ (k' : Kl) (m : Mem) (F' G' : Nat → Prop), Value.int .i64 (k.steps + 1) = .int .i64 k'.steps ∧ m.st = k'.steps ∧ Duo N F' G' W q1 p1 b1 q2 p2 b2 s k' m k' m ∧ Below H w W ∧ RowAt W H #[.int .i64 s.p, .int .i64 s.c, .int .i64 s.m] 23 ∧ RowAt W G #[.int .i64 o1.k, .int .i64 o1.a, .int .i64 o1.n, .int .i64 o2.k, .int .i64 o2.a, .int .i64 o2.n] 44)) := Lib.hid fun W F2 G2 h hb => by
        exact ⟨k1, m1, F2, G2, by rw [hks1], hms1', h, hbr.trans (hb.mono (by omega)), t0.belB hb lH1, t1.belB hb lG1⟩
      replace hid1 := Lib.hid hid1
      replace hask := Lib.hid hask
      replace hstA := Lib.hid hstA
      replace hstB := Lib.hid hstB
      replace hev := Lib.hid hev
      have hT0 := Lib.hid (fun W (h : Below N wr W) => (⟨t0.belB h lH1, t1.belB h lG1⟩ : RowAt W H #[.int .i64 s.p, .int .i64 s.c, .int .i64 s.m] 23 ∧ RowAt W G #[.int .i64 o1.k, .int .i64 o1.a, .int .i64 o1.n, .int .i64 o2.k, .int .i64 o2.a, .int .i64 o2.n] 44))
      clear hok hfew hacts hk1' hm1' hxs' hlen hre hms hks1 hms1 hms1' hj
      replace hd := Lib.hid hd
      go_upto_region 18 with (first
        | (go_at_call 13; (with_reducible refine (hrs.out _).mono ?_); rintro r w2 ⟨rfl, hb2⟩; have hd2 := hd.out.below hb2)
        | (go_at_call 14; (with_reducible refine (hid1.out _ hd2).mono ?_); rintro r w9 ⟨rfl, hw9⟩; obtain rfl := hw9.symm; clear hw9)
        | fail)
      have hb2N : Below N wr w2 := hb2.mono hlr
      have hl2 : N ≤ w2.heap.size := by have := hb2.size; omega
      have x3 : w2.cell? ⟨G, 3, .none⟩ = some (.int .i64 o2.k) := (hT0.out _ hb2N).2.cell 3
      have x4 : w2.cell? ⟨G, 4, .none⟩ = some (.int .i64 o2.a) := (hT0.out _ hb2N).2.cell 4
      have x5 : w2.cell? ⟨G, 5, .none⟩ = some (.int .i64 o2.n) := (hT0.out _ hb2N).2.cell 5
      have lG2 : G < w2.heap.size := by omega
      clear c0 c1 c2 t0 t1 hb2 hd
      go_upto_region 21 with (first
        | (go_at_call 12; (with_reducible refine (hask.out _ hd2 hl2).mono ?_); rintro r w3 ⟨ao3, n3, k3, F3, rfl, rfl, hd3, hb3, hl3⟩)
        | fail)
      replace hstA := Lib.hid (hstA.out _ _ hd3 hl3)
      clear hask x3 x4 x5 hd2
      go_wp2_with (first
        | (go_at_call 15; first
            | ((with_reducible refine hstB.out.mono ?_); rintro r w5 ⟨ao5, n5, k5, e5, F5, rfl, hr5, hd5, hb5, hl5, ho5⟩; have hr4' := hr4 _ ho5)
            | ((with_reducible refine hstA.out.mono ?_); rintro r w4 ⟨ao4, n4, k4, e4, F4, rfl, hr4, hd4, hb4, hl4, ho4⟩; replace hstB := Lib.hid (hstB.out _ _ hd4 hl4)))
        | (go_at_call 17; (with_reducible refine (hev.out _ _ _ hr4' hr5).mono ?_); rintro r w6 ⟨rfl, hb6⟩)
        | fail)
      exact ⟨hfin.out _ _ _ (hd5.below hb6) ((((hb2N.trans hb3).trans hb4).trans hb5).trans (hb6.mono hl5)), by simp only [intOf]; omega⟩
end Go.Proofs.YtcgakbgmdabnkaaGreat

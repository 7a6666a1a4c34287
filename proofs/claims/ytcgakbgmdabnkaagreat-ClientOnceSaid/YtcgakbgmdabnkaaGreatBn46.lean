/- Texts bound together: FlT EdgeS FlU CliZ CliG CliQ LwC LwD AwP. -/
import Derived.Test.YtcgakbgmdabnkaaGreatBn45

import Derived.Test.YtcgakbgmdabnkaaGreatBn44

import Derived.Test.YtcgakbgmdabnkaaGreatBn36

import Derived.Test.YtcgakbgmdabnkaaGreatBn37

set_option linter.all false
/- A share, a ratio, a float between two, as functions. -/
namespace Go.Proofs.YtcgakbgmdabnkaaGreat

namespace Fl

open Ieee

/-- The product's place. -/
def prodR (a b : Nat) : Nat := R (mg a * mg b) (-1074 + (sh a : Int) + (-1074 + (sh b : Int)))
theorem V_prod (a b : Nat) : V a * V b = mg a * mg b * 2 ^ (sh a + sh b) := by
  unfold V; rw [Nat.pow_add]; simp only [Nat.mul_assoc, Nat.mul_left_comm]
theorem prod_e (a b : Nat) : ((sh a + sh b : Nat) : Int) = -1074 + (sh a : Int) + (-1074 + (sh b : Int)) + 1074 + EX := by
  have := EX_eq; omega
theorem prodR_le {a b r : Nat} (h : V a * V b ≤ V r * 2 ^ EX) : prodR a b ≤ r := R_le_of (prod_e a b) (by rw [← V_prod]; exact h)
theorem mul_word {x y : Nat} (hx : rung x < INF) (hy : rung y < INF) : double.mul x y = some (double.word (neg x ^^ neg y) (prodR (rung x) (rung y))) := by
  unfold Format.mul
  rw [read_num hx, read_num hy]
  simp only [Datum.product, Option.map_some, Format.write, nearest_R]
  rfl

theorem ofInt_rung {n : Int} (h0 : -9223372036854775808 ≤ n) (h1 : n ≤ 9223372036854775807) : rung (floatOfInt .f64 n) = R n.natAbs 0 ∧ neg (floatOfInt .f64 n) = decide (n < 0) ∧ R n.natAbs 0 ≤ TOP + 1 ∧ rung (floatOfInt .f64 n) < INF := by
  have hI : INF < SW := INF_lt_SW
  have h63 : n.natAbs ≤ 2 ^ 63 := by
    have : (2 : Nat) ^ 63 = 9223372036854775808 := by decide
    omega
  have h2 : R n.natAbs 0 ≤ TOP + 1 := by
    refine R_le_of (K := 0) (e := EX) (by rw [EX_eq]; omega) ?_
    rw [V_top1, Nat.pow_zero, Nat.mul_one]
    exact Nat.mul_le_mul_right _ h63
  have h3 : TOP + 1 < INF := by decide
  rw [ofInt_eq]
  have h4 := R_le n.natAbs 0
  rw [rung_word _ (by omega), neg_word _ (by omega)]
  exact ⟨rfl, rfl, h2, by omega⟩
theorem iv_one : iv ONE = (ONE : Int) := by decide +kernel
theorem nan_one : nan ONE = false := by decide +kernel
/-- The share of n places. -/
def shareI (x : Nat) (n : Int) : Int :=
  if n < 1 ∨ nan x = true ∨ iv x < 0 then 0 else if (ONE : Int) ≤ iv x then n - 1 else min (T (prodR (rung x) (R n.natAbs 0)) : Int) (n - 1)
theorem share_conv {x : Nat} {n : Int} (hn : 1 ≤ n) (hn2 : n ≤ 9223372036854775807) (h0 : 0 ≤ iv x) (h1 : iv x < (ONE : Int)) :
    ∃ r, floatBits .mul .f64 x (floatOfInt .f64 n) = some r ∧ floatToIntVal .f64 r .i64 = some (T (prodR (rung x) (R n.natAbs 0)) : Int) ∧ (T (prodR (rung x) (R n.natAbs 0)) : Int) ≤ 9223372036854775807 := by
  have hO : ONE < INF := by decide
  have hO0 : 0 < ONE := by decide
  have hx : rung x < ONE := by
    unfold iv at h0 h1
    cases hn : neg x <;> simp only [hn, if_true, if_false, Bool.false_eq_true] at h0 h1 <;> omega
  obtain ⟨e1, e2, e3, e4⟩ := ofInt_rung (n := n) (by omega) hn2
  have hP : prodR (rung x) (R n.natAbs 0) ≤ TOP := prodR_le (share_top hx (by omega))
  have hT := T_le hP
  have hTT := T_top
  refine ⟨double.word (neg x ^^ neg (floatOfInt .f64 n)) (prodR (rung x) (R n.natAbs 0)), ?_, ?_, by omega⟩
  · show double.mul _ _ = _
    rw [mul_word (by omega) e4, e1]
  · have hI : INF < SW := INF_lt_SW
    have hTI := TOP_lt
    unfold floatToIntVal
    have hr := rung_word (neg x ^^ neg (floatOfInt .f64 n)) (r := prodR (rung x) (R n.natAbs 0)) (by omega)
    rw [toInt_eq (by rw [hr]; omega), hr, neg_word _ (by omega)]
    have hz : (neg x ^^ neg (floatOfInt .f64 n)) = true → T (prodR (rung x) (R n.natAbs 0)) = 0 := by
      intro h
      rw [e2, decide_eq_false (by omega), Bool.xor_false] at h
      have hr0 : rung x = 0 := by unfold iv at h0; rw [if_pos h] at h0; omega
      have : prodR (rung x) (R n.natAbs 0) ≤ 0 := prodR_le (by rw [hr0, V_zero]; simp)
      have h2 : prodR (rung x) (R n.natAbs 0) = 0 := by omega
      rw [h2]; decide +kernel
    have e5 : (if (neg x ^^ neg (floatOfInt .f64 n)) = true then -(T (prodR (rung x) (R n.natAbs 0)) : Int) else (T (prodR (rung x) (R n.natAbs 0)) : Int)) = (T (prodR (rung x) (R n.natAbs 0)) : Int) := by
      split
      · rename_i h; rw [hz h]; rfl
      · rfl
    rw [e5]
    have m1 : IntKind.i64.min = -9223372036854775808 := by decide
    have m2 : IntKind.i64.max = 9223372036854775807 := by decide
    simp only [m1, m2]
    rw [if_pos ⟨by omega, by omega⟩]
end Fl

end Go.Proofs.YtcgakbgmdabnkaaGreat
/- The walks of shares, ratios and clamps, of package edge and of the reference. -/
namespace Go.Proofs.YtcgakbgmdabnkaaGreat

open Go.RowKit Fl

theorem ge_one (x : Nat) : (FloatKind.f64.format.order x 4607182418800017408 == some .gt || FloatKind.f64.format.order x 4607182418800017408 == some .eq) = (!nan x && decide ((ONE : Int) ≤ iv x)) := by
  have h1 := gtxy x ONE
  have h2 := eqxy x ONE
  unfold ONE at h1 h2
  rw [h1, h2]
  show (gtB x ONE || eqB x ONE) = _
  unfold gtB eqB
  rw [nan_one, iv_one]
  cases nan x
  · simp only [Bool.not_false, Bool.true_and]
    rw [Bool.eq_iff_iff]
    simp only [Bool.or_eq_true, decide_eq_true_eq]
    omega
  · rfl

set_option maxHeartbeats 400000 in
theorem share_any (x : Nat) (n : Int) (hn0 : -9223372036854775808 ≤ n) (hn1 : n ≤ 9223372036854775807) (w : World) : Calls Tryz.prog 44 #[F64 x, .int .i64 n] w fun e w' => e = .returned (.int .i64 (shareI x n)) ∧ w' = w := by
  have hlt := lt0 x
  have hge := ge_one x
  have hk0 := kind_zero (x := x)
  unfold shareI
  by_cases h1 : n < 1
  · rw [if_pos (.inl h1)]
    clear hlt hge hk0
    go_enter Tryz.func44, Tryz.ntmps44
    go_wp2_with (go_at_call 102; refine (ekind_any _ _).mono ?_; rintro e w1 ⟨rfl, rfl⟩)
    go_ret
    exact ⟨rfl, rfl⟩
  · cases h2 : nan x
    · have hk : kindI x ≠ 0 := fun h => by rw [hk0.1 h] at h2; cases h2
      have hkb : (kindI x == 0) = false := by simpa using hk
      rw [h2] at hlt hge
      by_cases h3 : iv x < 0
      · rw [if_pos (.inr (.inr h3))]
        rw [decide_eq_true h3] at hlt
        clear hge hk0 h3
        go_enter Tryz.func44, Tryz.ntmps44
        go_wp2_with (go_at_call 102; refine (ekind_any _ _).mono ?_; rintro e w1 ⟨rfl, rfl⟩)
        go_ret
        exact ⟨rfl, rfl⟩
      · rw [if_neg (by simp only [Bool.false_eq_true, false_or, not_or]; exact ⟨h1, h3⟩)]
        rw [decide_eq_false h3] at hlt
        by_cases h4 : (ONE : Int) ≤ iv x
        · rw [if_pos h4]
          rw [decide_eq_true h4] at hge
          clear hk0 h3 h4
          go_enter Tryz.func44, Tryz.ntmps44
          go_wp2_with (go_at_call 102; refine (ekind_any _ _).mono ?_; rintro e w1 ⟨rfl, rfl⟩)
          go_ret
          exact ⟨rfl, rfl⟩
        · rw [if_neg h4]
          rw [decide_eq_false h4] at hge
          obtain ⟨r, hm0, hc0, ht⟩ := share_conv (x := x) (n := n) (by omega) hn1 (by omega) (by omega)
          generalize (T (prodR (rung x) (R n.natAbs 0)) : Int) = t at *
          have hm := fun w : World => run_float_arith (P := Tryz.prog) w .mul 33 .f64 _ _ r hm0
          have hc := fun w : World => run_convert_float_int (P := Tryz.prog) w 33 3 .f64 .i64 r t (by kernel_rfl) Tryz.underlying3 hc0
          clear hk0 h3 h4 hm0 hc0
          go_enter Tryz.func44, Tryz.ntmps44
          go_wp2_with (go_at_call 102; refine (ekind_any _ _).mono ?_; rintro e w1 ⟨rfl, rfl⟩)
          all_goals go_ret
          all_goals refine ⟨ret_int ?_, rfl⟩
          all_goals omega
    · have hk : kindI x = 0 := hk0.2 h2
      have hkb : (kindI x == 0) = true := by simpa using hk
      rw [if_pos (.inr (.inl rfl))]
      clear hlt hge hk0 hk
      go_enter Tryz.func44, Tryz.ntmps44
      go_wp2_with (go_at_call 102; refine (ekind_any _ _).mono ?_; rintro e w1 ⟨rfl, rfl⟩)
      go_ret
      exact ⟨rfl, rfl⟩

end Go.Proofs.YtcgakbgmdabnkaaGreat
/- Shares rise; a quotient of two small integers, rounded, lies as near as one wishes; the share of so many of so many. -/
namespace Go.Proofs.YtcgakbgmdabnkaaGreat

namespace Fl

open Ieee

theorem shareI_bd (x : Nat) {n : Int} (hn : 1 ≤ n) : 0 ≤ shareI x n ∧ shareI x n < n := by
  unfold shareI
  split
  · omega
  · split
    · omega
    · omega
end Fl

end Go.Proofs.YtcgakbgmdabnkaaGreat
/- A client in memory: New; what it says of itself. -/
namespace Go.Proofs.YtcgakbgmdabnkaaGreat

open Go.RowKit

attribute [local go_sem ↓] Go.wp_at_zero Go.wp_at_succ

/-- A client was made, or none. -/
def KlBorn (w w' : World) (e : Ending) (s : Sh) (c : Int) (x : Nat) : Prop := Below w.heap.size w w' ∧
  if statusIx s.p s.c s.m c < 0 then e = .returned (.pointer none) else ∃ q, e = .returned (.pointer (some ⟨q, 0, .none⟩)) ∧ KlO (fun i => w.heap.size ≤ i ∧ i < w'.heap.size) w' q s (klNew c (Fl.shareI x s.p))
set_option maxRecDepth 100000 in
set_option maxHeartbeats 4000000 in
theorem klnew_any (s : Sh) (c : Int) (x : Nat) (w : World) (hp : -9223372036854775808 ≤ s.p ∧ s.p ≤ 9223372036854775807) :
    Calls Tryz.prog 11 #[.agg #[.int .i64 s.p, .int .i64 s.c, .int .i64 s.m], .int .i64 c, F64 x] w fun e w' => KlBorn w w' e s c x := by
  have hc1 := fun W => planStatus_any s.p s.c s.m c W
  have hc2 := fun W => share_any x s.p hp.1 hp.2 W
  have hc3 := fun W => stkNew_any 1 W
  unfold KlBorn
  have hfin := Lib.hid (fun (Y W : World) (E S : Nat) (hb : Below w.heap.size w W) (hS : w.heap.size ≤ S) (hE : w.heap.size ≤ E) (hES : E ≠ S) (hr : RowAt W E (klCells s (klNew c (Fl.shareI x s.p)) true .nilIface (.pointer (some ⟨S, 0, .none⟩))) 110) (hs : RowAt W S #[.slice none 0 0, .int .i64 1] 175) => (by
    refine ⟨fun i hi => hi.2, ⟨hE, hr.lt⟩, S, .slice none 0 0, .nilIface, fun _ => False, hr, ⟨Nat.zero_le _, hs, World.ownsRow_nil _ _ _ _, by simp [Value.ownBlock], fun f hf => by cases hf⟩, fun i hi => ?_, fun i hi => hi.elim, fun _ => rfl, fun j hj => by cases hj⟩
    rcases hi with rfl | hi
    · exact ⟨⟨hS, hs.lt⟩, fun e => hES e.symm⟩
    · exact absurd hi (fun e => by cases e) : KlO (fun i => w.heap.size ≤ i ∧ i < W.heap.size) W E s (klNew c (Fl.shareI x s.p))))
  generalize statusIx s.p s.c s.m c = sx at *
  generalize Fl.shareI x s.p = sh at *
  obtain ⟨sp, sc, sm⟩ := s
  dsimp only [klCells, klNew, Op3.zero] at hc1 hc2 hfin ⊢
  replace hc1 := Lib.hid hc1
  replace hc2 := Lib.hid hc2
  replace hc3 := Lib.hid hc3
  have hb0 := (Below.refl w.heap.size w).alloc (Nat.le_refl _) (.cells #[.int .i64 sp, .int .i64 sc, .int .i64 sm] 23)
  have t0 : RowAt (w.alloc (.cells #[.int .i64 sp, .int .i64 sc, .int .i64 sm] 23)) w.heap.size #[.int .i64 sp, .int .i64 sc, .int .i64 sm] 23 := heap_alloc_new _ _
  go_enter Tryz.func11, Tryz.ntmps11
  go_upto_region 1 with fail
  generalize w.alloc (.cells #[.int .i64 sp, .int .i64 sc, .int .i64 sm] 23) = X at *
  obtain ⟨H, hHH, hHH'⟩ : ∃ H, Hid (H = w.heap.size) ∧ H = w.heap.size := ⟨_, Lib.hid rfl, rfl⟩
  rw [← hHH'] at t0 ⊢
  have hHw : w.heap.size ≤ H := by omega
  clear hHH'
  have lH : H < X.heap.size := t0.lt
  have c0 : X.cell? ⟨H, 0, .none⟩ = some (.int .i64 sp) := t0.cell 0
  have c1 : X.cell? ⟨H, 1, .none⟩ = some (.int .i64 sc) := t0.cell 1
  have c2 : X.cell? ⟨H, 2, .none⟩ = some (.int .i64 sm) := t0.cell 2
  by_cases hs : sx < 0
  · go_wp2_with (first | (go_at_call 43; (with_reducible refine (hc1.out _).mono ?_); rintro r w1 ⟨rfl, hb1⟩) | fail)
    go_returns
    refine ⟨belowTrans hb0 hb1, ?_⟩
    first | rfl | (rw [if_pos hs])
  · have hs' : decide (sx < 0) = false := decide_eq_false hs
    go_upto_region 3 with (first | (go_at_call 43; (with_reducible refine (hc1.out _).mono ?_); rintro r w1 ⟨rfl, hb1⟩) | fail)
    have t1 := t0.below hb1
    have bw1 := belowTrans hb0 hb1
    have td := t1.drew
    have bd := bw1.drew
    clear lH c0 c1 c2 hb0 t0
    have lH : H < w1.drew.heap.size := td.lt
    have hS := Lib.hid (fun (Y : World) (hr : RowAt Y H #[.int .i64 sp, .int .i64 sc, .int .i64 sm] 23) => (⟨hr.cell 0, hr.cell 1, hr.cell 2⟩ : Y.cell? ⟨H, 0, .none⟩ = some (.int .i64 sp) ∧ Y.cell? ⟨H, 1, .none⟩ = some (.int .i64 sc) ∧ Y.cell? ⟨H, 2, .none⟩ = some (.int .i64 sm)))
    go_region_held3 (fun Y => Y.cell? ⟨H, 0, .none⟩ = some (.int .i64 sp) ∧ Y.cell? ⟨H, 1, .none⟩ = some (.int .i64 sc) ∧ Y.cell? ⟨H, 2, .none⟩ = some (.int .i64 sm))
      (first | exact hS.out _ td | exact hS.out _ (td.alloc _) | exact hS.out _ ((td.alloc _).alloc _) | fail)
      (first
        | (go_at_call 44; (with_reducible refine (hc2.out _).mono ?_); rintro r w2 ⟨rfl, hw2⟩; obtain rfl := hw2.symm)
        | (go_at_call 45; (with_reducible refine (hc3.out _).mono ?_); rintro r w3 ⟨rfl, hw3⟩; obtain rfl := hw3.symm)
        | fail)
    all_goals go_wp2_with fail
    go_returns
    have e1 : (w1.alloc (.cells #[.slice none 0 0, .int .i64 1] 175)).heap.size = w1.heap.size + 1 := size_alloc _ _
    have r1 : RowAt ((w1.alloc (.cells #[.slice none 0 0, .int .i64 1] 175)).alloc (.cells #[.int .i64 sp, .int .i64 sc, .int .i64 sm, .int .i64 c, .int .i64 sh, .int .i64 0, .int .i64 0, .int .i64 0, .nilIface, .bool true, .bool false, .pointer (some ⟨w1.heap.size, 0, .none⟩), .int .i64 0] 110)) w1.heap.size #[.slice none 0 0, .int .i64 1] 175 := RowAt.alloc (heap_alloc_new _ _) _
    have r2 : RowAt ((w1.alloc (.cells #[.slice none 0 0, .int .i64 1] 175)).alloc (.cells #[.int .i64 sp, .int .i64 sc, .int .i64 sm, .int .i64 c, .int .i64 sh, .int .i64 0, .int .i64 0, .int .i64 0, .nilIface, .bool true, .bool false, .pointer (some ⟨w1.heap.size, 0, .none⟩), .int .i64 0] 110)) (w1.heap.size + 1) #[.int .i64 sp, .int .i64 sc, .int .i64 sm, .int .i64 c, .int .i64 sh, .int .i64 0, .int .i64 0, .int .i64 0, .nilIface, .bool true, .bool false, .pointer (some ⟨w1.heap.size, 0, .none⟩), .int .i64 0] 110 := by
      have h := heap_alloc_new (w1.alloc (.cells #[.slice none 0 0, .int .i64 1] 175)) (.cells #[.int .i64 sp, .int .i64 sc, .int .i64 sm, .int .i64 c, .int .i64 sh, .int .i64 0, .int .i64 0, .int .i64 0, .nilIface, .bool true, .bool false, .pointer (some ⟨w1.heap.size, 0, .none⟩), .int .i64 0] 110)
      rw [e1] at h
      exact h
    have b2 : Below w.heap.size w ((w1.alloc (.cells #[.slice none 0 0, .int .i64 1] 175)).alloc (.cells #[.int .i64 sp, .int .i64 sc, .int .i64 sm, .int .i64 c, .int .i64 sh, .int .i64 0, .int .i64 0, .int .i64 0, .nilIface, .bool true, .bool false, .pointer (some ⟨w1.heap.size, 0, .none⟩), .int .i64 0] 110)).drew := ((bw1.alloc bw1.size (.cells #[.slice none 0 0, .int .i64 1] 175)).alloc (by rw [e1]; have := bw1.size; omega) (.cells #[.int .i64 sp, .int .i64 sc, .int .i64 sm, .int .i64 c, .int .i64 sh, .int .i64 0, .int .i64 0, .int .i64 0, .nilIface, .bool true, .bool false, .pointer (some ⟨w1.heap.size, 0, .none⟩), .int .i64 0] 110)).drew
    refine ⟨b2, ?_⟩
    try rw [if_neg hs]
    exact ⟨_, rfl, hfin.out w _ (w1.heap.size + 1) w1.heap.size b2 bw1.size (by have := bw1.size; omega) (by omega) r2.drew r1.drew⟩
end Go.Proofs.YtcgakbgmdabnkaaGreat
/- A client in memory: whether it rests, its steps, where it begins. -/
namespace Go.Proofs.YtcgakbgmdabnkaaGreat

open Go.RowKit

attribute [local go_sem ↓] Go.wp_at_zero Go.wp_at_succ

theorem klidle_any {F : Nat → Prop} {w : World} {q : Nat} {s : Sh} {k : Kl} (h : KlO F w q s k) : Calls Tryz.prog 14 #[.pointer (some ⟨q, 0, .none⟩)] w fun e w' => e = .returned (.bool k.rests) ∧ w' = w := by
  have hre := Lib.hid h.rests
  clear h
  have hnil : ∀ W : World, (binOp .neq 31 (.pointer (some ⟨q, 0, .none⟩)) (.pointer none)).run Tryz.prog W = .ok (.bool true) W := fun W => by kernel_rfl
  generalize k.rests = r at *
  go_enter Tryz.func14, Tryz.ntmps14
  go_wp2_with (first | (go_at_call 46; (with_reducible refine hre.out.mono ?_); rintro r w1 ⟨rfl, hw1⟩; obtain rfl := hw1.symm) | fail)
  go_returns
  exact ⟨rfl, rfl⟩
theorem klsteps_any {F : Nat → Prop} {w : World} {q : Nat} {s : Sh} {k : Kl} (h : KlO F w q s k) : Calls Tryz.prog 20 #[.pointer (some ⟨q, 0, .none⟩)] w fun e w' => e = .returned (.int .i64 k.steps) ∧ w' = w := by
  obtain ⟨_, _, sp, sl, jv, G, hrow, _⟩ := h
  have c12 : w.cell? ⟨q, 12, .none⟩ = some (.int .i64 k.steps) := hrow.cell 12
  clear hrow
  go_enter Tryz.func20, Tryz.ntmps20
  go_wp2_with fail
  go_returns
  exact ⟨rfl, rfl⟩
end Go.Proofs.YtcgakbgmdabnkaaGreat
/- What a client keeps: its job lives, does one access at each step, and ends within its bound. Plain. -/
namespace Go.Proofs.YtcgakbgmdabnkaaGreat

theorem status_in {s : Sh} {c : Int} (hm : mayB s.p s.c s.m = true) (hc : 0 ≤ c ∧ c < s.c) : statusIx s.p s.c s.m c = c := by unfold statusIx; rw [if_pos ⟨hm, wi_iff.2 (by omega)⟩]
theorem page_in {s : Sh} {c : Int} (hm : mayB s.p s.c s.m = true) (hc : 0 ≤ c ∧ c < s.p) : pageIx s.p s.c s.m c = s.c + c := by unfold pageIx; rw [if_pos ⟨hm, wi_iff.2 (by omega)⟩]
theorem class_slots {n : Int} (h : wi n 1 32 = true) : 0 < slotsV (classV n) := by
  have h1 := class_bd n
  have : classV n = 0 ∨ classV n = 1 ∨ classV n = 2 ∨ classV n = 3 := by omega
  rcases this with e | e | e | e <;> rw [e] <;> decide
theorem skNew_live {s : Sh} {c k f : Int} (hm : mayB s.p s.c s.m = true) (hc : 0 ≤ c ∧ c < s.c) (hk : 0 < slotsV k) (hf : 0 ≤ f ∧ f < s.p) : (skNew s c k f).done = false := by
  have hb := mayB_iff.1 hm
  have h1 := status_in hm hc
  have h2 := page_in hm hf
  unfold skNew
  rw [if_pos ⟨by omega, hk, by omega⟩]
  rcases Bool.eq_false_or_eq_true (tkNew s c k).done with hd | hd
  · have hsc : (scNew s c k f).done = false := by
      simp only [scNew, Bool.not_eq_false', Bool.and_eq_true, decide_eq_true_eq]
      omega
    rw [skSettle_go (x := .tk (tkNew s c k)) rfl rfl hd]
    have ha : Sk.after s ⟨c, k, f, some (.tk (tkNew s c k)), 0, 0, 0, false, false⟩ (.tk (tkNew s c k)) = ⟨c, k, f, some (.sc (scNew s c k f)), 0, 0, 0, false, false⟩ := by simp [Sk.after, tkNew]
    rw [ha, skSettle_stop (.inr (.inr ⟨.sc (scNew s c k f), rfl, hsc⟩))]
  · rw [skSettle_stop (.inr (.inr ⟨.tk (tkNew s c k), rfl, hd⟩))]
theorem rsNew_live {s : Sh} {c n f : Int} (hm : mayB s.p s.c s.m = true) (hc : 0 ≤ c ∧ c < s.c) (hf : 0 ≤ f ∧ f < s.p) (hl : lenB n = true) (hn : wi n 33 512 = true → runV n ≤ s.p) : (rsNew s c n f).done = false := by
  have hb := mayB_iff.1 hm
  have h1 := status_in hm hc
  unfold rsNew
  split
  · rename_i hw
    exact skNew_live hm hc (class_slots hw) hf
  · split
    · rename_i _ hw
      have h2 := hn hw
      have h3 := wi_iff.1 hw
      have h4 : runV n = (n - 1) / 64 + 1 := by unfold runV; rw [if_pos hw]
      show (rnNew s c (runV n)).done = false
      simp only [rnNew, Bool.not_eq_false', Bool.and_eq_true, decide_eq_true_eq]
      omega
    · rename_i ha hb2
      have h5 : wi n 1 512 = true := hl
      have h6 := wi_iff.1 h5
      exfalso
      by_cases h7 : n ≤ 32
      · exact ha (wi_iff.2 (by omega))
      · exact hb2 (wi_iff.2 (by omega))
/-- A job that is begun is not done, and has given nothing. -/
theorem jbNew_live {s : Sh} {c f k a n : Int} (hm : mayB s.p s.c s.m = true) (hc : 0 ≤ c ∧ c < s.c) (hf : 0 ≤ f ∧ f < s.p) (hk : 1 ≤ k ∧ k ≤ 4) (ho : onceB s c k a n = false) : (jbNew s c f k a n).done = false ∧ (jbNew s c f k a n).gave = false := by
  have hb := mayB_iff.1 hm
  have h1 := status_in hm hc
  unfold onceB at ho
  rw [Bool.or_eq_false_iff] at ho
  obtain ⟨h2, h3⟩ := ho
  have : k = 1 ∨ k = 2 ∨ k = 3 ∨ k = 4 := by omega
  rcases this with rfl | rfl | rfl | rfl
  · have hl : lenB n = true := by simpa [onceBad] using h2
    have hn : wi n 33 512 = true → runV n ≤ s.p := fun e => by simpa [onceNo, e] using h3
    refine ⟨?_, rfl⟩
    have hr := rsNew_live hm hc hf hl hn
    show ((rsNew s c n f).done && _) = false
    rw [hr]; rfl
  · have hl : spB s a = true := by simpa [onceBad] using h2
    refine ⟨?_, rfl⟩
    show (feNew s c a).done = false
    simp only [feNew, hl, Bool.not_true, Bool.false_or, decide_eq_false_iff_not]
    omega
  · have hl : lenB n = true ∧ spB s a = true := by simpa [onceBad] using h2
    have hn : wi n 33 512 = true → runV n ≤ s.p := fun e => by simpa [onceNo, e] using h3
    have hr := rsNew_live hm hc hf hl.1 hn
    have e : rrNew s c a n f = ⟨c, some (rsNew s c n f), some (feNew s c a), none, none, 0, false⟩ := by
      unfold rrNew
      rw [if_pos ⟨hl.2, hl.1, by omega⟩]
      unfold Rr.settle
      dsimp only
      simp [hr]
    show (rrNew s c a n f).done = false ∧ (Jb.aga (rrNew s c a n f)).gave = false
    rw [e]
    exact ⟨rfl, rfl⟩
  · have hl : 0 ≤ statusIx s.p s.c s.m a ∧ a ≠ c := by
      have := h2
      simp only [onceBad, beq_self_eq_true, Bool.true_and, Bool.or_eq_false_iff, decide_eq_false_iff_not, beq_eq_false_iff_ne] at this
      exact ⟨by omega, this.1.1.2⟩
    refine ⟨?_, rfl⟩
    show (adNew s c a).done = false
    unfold adNew
    dsimp only
    rw [if_neg (by rintro (h | h | h); omega; omega; exact hl.2 h.symm)]
theorem klNew_ok {s : Sh} {c f : Int} (hc : 0 ≤ c ∧ c < s.c) (hf : 0 ≤ f ∧ f < s.p) : klOk s (klNew c f) := ⟨hc, hf, fun j h => (by cases h), Int.le_refl _, fun j h => (by cases h)⟩
theorem klAsk_ok {s : Sh} {k : Kl} (o : Op3) (hm : mayB s.p s.c s.m = true) (h : klOk s k) : klOk s (k.invoke s o).1 := by
  unfold Kl.invoke
  split
  · exact h
  · rename_i hr
    split
    · exact h
    · rename_i hk
      have hj : k.job = none := by
        cases hj : k.job
        · rfl
        · simp [Kl.rests, hj] at hr
      split
      · refine ⟨h.cl, h.fi, fun j e => ?_, Int.le_refl _, fun j e => ?_⟩
        · have e : k.job = some j := e
          rw [hj] at e; cases e
        · have e : k.job = some j := e
          rw [hj] at e; cases e
      · rename_i ho
        have ho : onceB s k.c o.k o.a o.n = false := by simpa using ho
        have hn := jb_new (s := s) k.c k.first o.k o.a o.n hm h.cl
        have hl := jbNew_live hm h.cl h.fi (by omega) ho
        refine ⟨h.cl, h.fi, fun j e => ?_, Int.le_refl _, fun j e => ?_⟩
        · have e : some (jbNew s k.c k.first o.k o.a o.n) = some j := e
          injection e with e; subst e
          exact ⟨hn.1, hl.1, fun e => (by rw [hl.2] at e; cases e), (by dsimp only; omega)⟩
        · have e : some (jbNew s k.c k.first o.k o.a o.n) = some j := e
          injection e with e; subst e
          dsimp only; omega
/-- One access: of its own, to a word that is there; what is left is less. -/
theorem klStep_ok {s : Sh} {k : Kl} {m : Mem} {j : Jb} (h : klOk s k) (hj : k.job = some j) (hf : Fits s m) (hfit : m.fit) : Acts k.c m (k.step s m).2.1 ∧ klOk s (k.step s m).1 := by
  have hb := hf.bd
  obtain ⟨h1, h2, h3, h4⟩ := h.jb j hj
  have hs := jb_step h1 h.cl h2 hf hfit
  have hl := h.lf j hj
  unfold Kl.step
  rw [hj]
  dsimp only
  refine ⟨hs.1, h.cl, h.fi, fun x hx => ?_, by have := h.st; show 0 ≤ k.steps + 1; omega, fun x hx => ?_⟩
  · have hx : (if (j.step s k.c m).1.done = true then none else some (j.step s k.c m).1) = some x := hx
    split at hx
    · cases hx
    · rename_i hd
      injection hx with hx; subst hx
      refine ⟨hs.2.1, by simpa using hd, fun e => ?_, h4⟩
      show (k.told || (j.step s k.c m).1.gave) = true
      rw [e]; simp
  · have hx : (if (j.step s k.c m).1.done = true then none else some (j.step s k.c m).1) = some x := hx
    split at hx
    · cases hx
    · injection hx with hx; subst hx
      have := hs.2.2.1
      show jbLeft s _ + (k.steps + 1) ≤ _
      omega
/-- How many steps it has before it. -/
theorem kl_few {s : Sh} {k : Kl} {j : Jb} (h : klOk s k) (hm : 0 ≤ s.m) (hj : k.job = some j) : k.steps + 1 ≤ 110 * s.p + 4 * s.m + 60 := by
  have h1 := h.lf j hj
  have h2 := jb_pos (h.jb j hj).1 hm (h.jb j hj).2.1
  omega
end Go.Proofs.YtcgakbgmdabnkaaGreat
/- A client beside words: one access, one question, whatever is asked; all of it new memory. -/
namespace Go.Proofs.YtcgakbgmdabnkaaGreat

open Go.RowKit

attribute [local go_sem ↓] Go.wp_at_zero Go.wp_at_succ

/-- A client at q and words at p, its blocks in F, all from block B on. -/
structure CW (B : Nat) (F : Nat → Prop) (W : World) (q p b : Nat) (s : Sh) (k : Kl) (m : Mem) : Prop where
  kl : KlO F W q s k
  wd : WdsAt W p b m
  fp : ¬ F p
  fb : ¬ F b
  lo : ∀ i, F i → B ≤ i
  lp : B ≤ p
  lb : B ≤ b
  ok : klOk s k
  fi : Fits s m
section

variable {B : Nat} {F : Nat → Prop} {W W' : World} {q p b : Nat} {s : Sh} {k : Kl} {m : Mem}

theorem CW.below (h : CW B F W q p b s k m) (hb : Below W.heap.size W W') : CW B F W' q p b s k m := ⟨h.kl.below hb, h.wd.below hb, h.fp, h.fb, h.lo, h.lp, h.lb, h.ok, h.fi⟩
theorem CW.only {G : Nat → Prop} (h : CW B F W q p b s k m) (ho : Only G W W') (hG : ∀ i, G i → ¬ F i ∧ i ≠ p ∧ i ≠ b) : CW B F W' q p b s k m :=
  ⟨h.kl.only ho (fun i hi hg => (hG i hg).1 hi), h.wd.only ho (fun e => (hG p e).2.1 rfl) (fun e => (hG b e).2.2 rfl), h.fp, h.fb, h.lo, h.lp, h.lb, h.ok, h.fi⟩
theorem grow_fresh {p : Nat} (h : ¬ F p) (hp : p < W.heap.size) : ¬ grow F W W' p := fun e => by
  rcases e with e | e
  · exact h e
  · omega
/-- What a client's access comes to. -/
structure CwStep (B : Nat) (F : Nat → Prop) (W W' : World) (q p b : Nat) (s : Sh) (k : Kl) (m : Mem) (r : Ending) : Prop where
  ret : ∃ v, r = .returned (.tuple #[v, .int .i64 (k.step s m).2.2.2]) ∧ W'.ownsRow W.heap.size 39 8 v (k.step s m).2.2.1.length ((k.step s m).2.2.1.flatMap fun e => e.cells.toList)
  cw : CW B (grow F W W') W' q p b s (k.step s m).1 (k.step s m).2.1
  only : Only (fun i => F i ∨ i = p ∨ i = b) W W'
  below : Below B W W'
theorem cw_step (h : CW B F W q p b s k m) (hB : B ≤ W.heap.size) (hs : m.st < 1000000000) :
    Calls Tryz.prog 15 #[.pointer (some ⟨q, 0, .none⟩), .pointer (some ⟨p, 0, .none⟩)] W fun r w' => CwStep B F W w' q p b s k m r := by
  have hm := h.fi.may
  have hb := h.fi.bd
  have key : ∀ r w', KlStep F q p b W w' r s k m → klOk s (k.step s m).1 → Fits s (k.step s m).2.1 → CwStep B F W w' q p b s k m r := fun r w' hS ho hf => by
    refine ⟨hS.ret, ⟨hS.kl, hS.wds, grow_fresh h.fp h.wd.ltp, grow_fresh h.fb h.wd.ltb, fun i hi => ?_, h.lp, h.lb, ho, hf⟩, hS.only, hS.only.below hB (fun i hi => ?_)⟩
    · rcases hi with hi | hi
      · exact h.lo i hi
      · omega
    · rcases hi with hi | rfl | rfl
      · exact h.lo i hi
      · exact h.lp
      · exact h.lb
  rcases hj : k.job with _ | j
  · refine (klstep_none h.kl h.wd hj).mono fun r w' hS => key r w' hS ?_ ?_
    · have e : k.step s m = (k, m, [], 2) := by unfold Kl.step; rw [hj]
      rw [e]; exact h.ok
    · have e : k.step s m = (k, m, [], 2) := by unfold Kl.step; rw [hj]
      rw [e]; exact h.fi
  · have ho := klStep_ok h.ok hj h.fi h.wd.fit
    have hfew := kl_few h.ok (by omega) hj
    refine (klstep_some h.kl h.wd h.fp h.fb h.fi h.wd.fit hj (h.ok.jb j hj).1 (h.ok.jb j hj).2.1 h.ok.cl ⟨h.ok.st, by omega⟩ hs).mono fun r w' hS => key r w' hS ho.2 (ho.1.fits h.fi)
/-- What asking a client comes to. -/
structure CwAsk (B : Nat) (F : Nat → Prop) (W W' : World) (q p b : Nat) (s : Sh) (k : Kl) (m : Mem) (o : Op3) (r : Ending) : Prop where
  ret : ∃ v, r = .returned (.tuple #[v, .int .i64 (k.invoke s o).2.2]) ∧ W'.ownsRow W.heap.size 39 8 v (k.invoke s o).2.1.length ((k.invoke s o).2.1.flatMap fun e => e.cells.toList)
  cw : CW B (grow F W W') W' q p b s (k.invoke s o).1 m
  only : Only F W W'
  below : Below B W W'
theorem cw_ask (o : Op3) (h : CW B F W q p b s k m) (hB : B ≤ W.heap.size) :
    Calls Tryz.prog 12 #[.pointer (some ⟨q, 0, .none⟩), .agg #[.int .i64 o.k, .int .i64 o.a, .int .i64 o.n]] W fun r w' => CwAsk B F W w' q p b s k m o r := by
  refine (klask_any (o := o) h.kl).mono fun r w' hS => ?_
  refine ⟨hS.ret, ⟨hS.kl, h.wd.only hS.only h.fp h.fb, grow_fresh h.fp h.wd.ltp, grow_fresh h.fb h.wd.ltb, fun i hi => ?_, h.lp, h.lb, klAsk_ok o h.fi.may h.ok, h.fi⟩, hS.only, hS.only.below hB h.lo⟩
  rcases hi with hi | hi
  · exact h.lo i hi
  · omega
end

theorem rdE_own {w : World} {B : Nat} {v : Value} {es : List Ev} (h : w.ownsRow B 39 8 v es.length (es.flatMap fun e => e.cells.toList)) : RdE w v es := RdS.of_own h
/-- A new client, and words. -/
theorem cw_new {B : Nat} {W1 W2 : World} {q p b : Nat} {s : Sh} {c : Int} {x : Nat} {m : Mem} (hk : KlO (fun i => W1.heap.size ≤ i ∧ i < W2.heap.size) W2 q s (klNew c (Fl.shareI x s.p))) (hw : WdsAt W2 p b m) (hp : p < W1.heap.size) (hb : b < W1.heap.size) (h1 : B ≤ W1.heap.size) (h2 : B ≤ p) (h3 : B ≤ b) (hm : mayB s.p s.c s.m = true) (hc : 0 ≤ c ∧ c < s.c) (hf : Fits s m) :
    CW B (fun i => W1.heap.size ≤ i ∧ i < W2.heap.size) W2 q p b s (klNew c (Fl.shareI x s.p)) m := by
  have hbd := mayB_iff.1 hm
  exact ⟨hk, hw, fun e => by omega, fun e => by omega, fun i hi => by omega, h2, h3, klNew_ok hc (Fl.shareI_bd x (by omega)), hf⟩
end Go.Proofs.YtcgakbgmdabnkaaGreat
/- A row of events of the law's own beside a client. -/
namespace Go.Proofs.YtcgakbgmdabnkaaGreat

open Go.RowKit

/-- A row of events of the law's own, beside a client's blocks F and words p, b. -/
structure RowE (B : Nat) (F : Nat → Prop) (W : World) (p b : Nat) (v : Value) (es : List Ev) : Prop where
  own : W.ownsRow B 39 8 v es.length (es.flatMap fun e => e.cells.toList)
  ap : ∀ g, v.ownBlock = some g → ¬ F g ∧ g ≠ p ∧ g ≠ b
section

variable {B : Nat} {F : Nat → Prop} {W W' : World} {q p b : Nat} {s : Sh} {k : Kl} {m : Mem} {v v' : Value} {es xs : List Ev}

theorem RowE.nil : RowE B F W p b (.slice none 0 0) [] := ⟨World.ownsRow_nil _ _ _ _, fun g hg => by simp [Value.ownBlock] at hg⟩
theorem RowE.only (h : RowE B F W p b v es) (ho : Only (fun i => F i ∨ i = p ∨ i = b) W W') : RowE B (grow F W W') W' p b v es := by
  refine ⟨ownsRow_of_blocks h.own fun k hk => ho.block k (h.own.lt k hk).2 fun e => ?_, fun g hg => ⟨grow_fresh (h.ap g hg).1 (h.own.lt g hg).2, (h.ap g hg).2⟩⟩
  rcases e with e | e | e
  · exact (h.ap k hk).1 e
  · exact (h.ap k hk).2.1 e
  · exact (h.ap k hk).2.2 e
theorem RowE.below (h : RowE B F W p b v es) (hb : Below W.heap.size W W') : RowE B F W' p b v es :=
  ⟨ownsRow_of_blocks h.own fun k hk => hb.block k (h.own.lt k hk).2, h.ap⟩
theorem RowE.rd (h : RowE B F W p b v es) : RdE W v es := rdE_own h.own
theorem RowE.put (h : RowE B F W p b v es) (hc : CW B F W q p b s k m) (hg : W.grownBy W' v.ownBlock)
    (ho : W'.ownsRow B 39 8 v' (es.length + xs.length) ((es.flatMap fun e => e.cells.toList) ++ xs.flatMap fun e => e.cells.toList))
    (hv : v'.ownBlock = v.ownBlock ∨ v'.ownBlock = some W.heap.size) : CW B F W' q p b s k m ∧ RowE B F W' p b v' (es ++ xs) := by
  refine ⟨hc.only (G := fun i => v.ownBlock = some i) ((Only.refl _ W).grown hg fun k hk => .inl hk) fun i hi => h.ap i hi, ⟨?_, fun g hg' => ?_⟩⟩
  · rw [List.length_append, List.flatMap_append]; exact ho
  · rcases hv with hv | hv
    · exact h.ap g (hv ▸ hg')
    · rw [hv] at hg'
      injection hg' with e
      subst e
      exact ⟨fun e => by have := hc.kl.lt _ e; omega, Nat.ne_of_gt hc.wd.ltp, Nat.ne_of_gt hc.wd.ltb⟩
end

end Go.Proofs.YtcgakbgmdabnkaaGreat
/- The plain run of law20's awake: a Malloc of 64 words over an empty page. -/
namespace Go.Proofs.YtcgakbgmdabnkaaGreat

namespace Aw

def s1 : Sh := ⟨1, 1, 0⟩
def o1 : Op3 := ⟨1, 0, 64⟩
def m0 : Mem := ⟨List.replicate 18 0, 0, ⟨0, 0, 0, 0, 0, false⟩⟩
def kk : Nat → Kl × Mem
  | 0 => (((klNew 0 0).invoke s1 o1).1, m0)
  | n + 1 => (((kk n).1.step s1 (kk n).2).1, ((kk n).1.step s1 (kk n).2).2.1)
def es : Nat → List Ev
  | 0 => []
  | n + 1 => es n ++ ((kk n).1.step s1 (kk n).2).2.2.1
theorem asked : ((klNew 0 0).invoke s1 o1).2.1.length = 1 ∧ ((klNew 0 0).invoke s1 o1).2.2 = 0 := by decide +kernel
theorem told : (es 3).map (fun e => (e.k, e.n)) = [(3, 64), (5, 0)] := by decide +kernel
theorem few {j : Nat} (h : j ≤ 3) : (es j).length ≤ 2 := by
  have : j = 0 ∨ j = 1 ∨ j = 2 ∨ j = 3 := by omega
  rcases this with rfl | rfl | rfl | rfl <;> decide +kernel
theorem stp {j : Nat} (h : j < 3) : (kk j).2.st < 1000000000 := by
  have : j = 0 ∨ j = 1 ∨ j = 2 := by omega
  rcases this with rfl | rfl | rfl <;> decide +kernel
theorem last : (kk 3).1.rests = true ∧ (kk 3).1.steps = 3 := by decide +kernel
theorem may : mayB s1.p s1.c s1.m = true := by decide +kernel
end Aw

end Go.Proofs.YtcgakbgmdabnkaaGreat

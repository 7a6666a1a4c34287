/- The walk of the law ScriptParses. -/
import Derived.Test.YtkeiehgojclecaaDoorRfN

import Derived.Test.YtkeiehgojclecaaDoorScrPb

import Derived.Test.YtkeiehgojclecaaDoorSchK

import Derived.Test.YtkeiehgojclecaaDoorSchR

import Derived.Test.YtkeiehgojclecaaDoorScrT

namespace Go.Proofs.YtkeiehgojclecaaDoor

open Go.RowKit Fl

attribute [local go_sem ↓] Go.wp_at_zero Go.wp_at_succ

theorem sameC_self (c : Ch) : sameC c c = true := by simp [sameC]
theorem sameL_self (l : List Ch) : sameL l l = true := by
  induction l with
  | nil => rfl
  | cons c l ih => show (sameC c c && sameL l l) = true; rw [sameC_self, ih]; rfl
theorem parse_facts (l : List UInt8) (h6 : l.length ≤ 6000) : ∃ p c m xs a e, parseO l = ((p, c, m), xs, a, e) ∧ i64 p ∧ i64 c ∧ i64 m ∧ (∀ c ∈ xs, c.wf) ∧ xs.length < 4000 ∧ (∀ i t, showsO (xs.take i) = some t → (headL p c m ++ t).length ≤ 65536) ∧ (e = 0 → printO p c m xs = (l, 0)) := by
  by_cases h : (parseO l).2.2.2 = 0
  · obtain ⟨p, c, m, xs, t, h1, h2, h3, h4, h5, h7, h8, h9⟩ := parse_back h
    exact ⟨p, c, m, xs, 0, 0, h1, h2, h3, h4, h5, h9, take_short h7 h8 h6, fun _ => by unfold printO; rw [h7, h8]⟩
  · obtain ⟨h1, h2⟩ := parse_err h
    refine ⟨0, 0, 0, [], (parseO l).2.2.1, (parseO l).2.2.2, ?_, i64_0, i64_0, i64_0, by simp, by simp, small_text i64_0 i64_0 i64_0 (by simp) (by simp), fun e => absurd e h⟩
    rw [← h1, ← h2]
set_option maxRecDepth 100000 in
set_option maxHeartbeats 1000000 in
theorem sparses_any (l : List UInt8) (w : World) (h : Laid w) :
    Calls Tryd.prog 6 #[.string (S l)] w fun e w' => e = .returned (.bool true) ∧ Below w.heap.size w w' := by
  have hsz : (S l).size = l.length := S_size l
  have haw := Lib.hid (awake25_any w h)
  go_enter Tryd.func6, Tryd.ntmps6
  go_upto_region 3 with (go_at_call 8; refine haw.out.mono ?_; rintro r w1 ⟨rfl, hb1⟩)
  have hB := Lib.hid hb1
  have hL1 := h.below hb1
  clear haw h hb1
  by_cases h6 : l.length ≤ 6000
  case neg =>
    have h6i : (6000 : Int) < (l.length : Int) := by omega
    replace h6 := Lib.hid h6
    go_wp2_with fail
    go_ret
    exact ⟨rfl, hB.out⟩
  have h6i : ¬ (6000 : Int) < (l.length : Int) := by omega
  obtain ⟨p, c, m, xs, a, er, hpo, hp, hc, hm, hwf, hlen, hsm, hpr0⟩ := parse_facts l h6
  have hp1 := parse_any l (by omega) w1 hL1
  have hp2 := fun X => rparse_any l h6 X
  rw [hpo] at hp1
  simp only [hpo] at hp2
  replace hp1 := Lib.hid hp1
  replace hp2 := Lib.hid hp2
  replace h6 := Lib.hid h6
  replace hpo := Lib.hid hpo
  go_upto_region 6 with (go_at_call 11; refine hp1.out.mono ?_; rintro r w2 ⟨⟨v2, rfl, hr2⟩, hb2⟩)
  replace hr2 : RdC w2 v2 xs := hr2
  have hc2 := (Below.refl w2.heap.size w2).alloc (Nat.le_refl _) (.cells #[.int .i64 p, .int .i64 c, .int .i64 m] 26)
  have bx := heap_alloc_new w2 (.cells #[.int .i64 p, .int .i64 c, .int .i64 m] 26)
  generalize w2.alloc (.cells #[.int .i64 p, .int .i64 c, .int .i64 m] 26) = X at *
  obtain ⟨H, hH, hH'⟩ : ∃ H, Hid (H = w2.heap.size) ∧ H = w2.heap.size := ⟨_, Lib.hid rfl, rfl⟩
  simp only [← hH'] at bx ⊢
  clear hH'
  have lH := (Array.getElem?_eq_some_iff.1 bx).1
  have hrX := hr2.below hc2
  have hBX := hb2.trans (hc2.mono hb2.size)
  clear hp1 hr2 hc2 hb2
  go_upto_region 7 with (go_at_call 16; refine (hp2.out _).mono ?_; rintro r w3 ⟨⟨v3, rfl, hr3⟩, hb3⟩)
  replace hr3 : RdC w3 v3 xs := hr3
  have hc3 := (Below.refl w3.heap.size w3).alloc (Nat.le_refl _) (.cells #[.int .i64 p, .int .i64 c, .int .i64 m] 26)
  have by3 := heap_alloc_new w3 (.cells #[.int .i64 p, .int .i64 c, .int .i64 m] 26)
  generalize w3.alloc (.cells #[.int .i64 p, .int .i64 c, .int .i64 m] 26) = Y at *
  obtain ⟨J, hJ, hJ'⟩ : ∃ J, Hid (J = w3.heap.size) ∧ J = w3.heap.size := ⟨_, Lib.hid rfl, rfl⟩
  simp only [← hJ'] at by3 ⊢
  clear hJ'
  have hXY := hb3.trans (hc3.mono hb3.size)
  have hr3Y := hr3.below hc3
  have hrY := hrX.below hXY
  have hBY := Lib.hid (hBX.trans (hXY.mono hBX.size))
  have bxY := (hXY.block H lH).trans bx
  have k0 : Y.cell? ⟨H, 0, .none⟩ = some (.int .i64 p) := rowCells bxY 0
  have k1 : Y.cell? ⟨H, 1, .none⟩ = some (.int .i64 c) := rowCells bxY 1
  have k2 : Y.cell? ⟨H, 2, .none⟩ = some (.int .i64 m) := rowCells bxY 2
  have j0 : Y.cell? ⟨J, 0, .none⟩ = some (.int .i64 p) := rowCells by3 0
  have j1 : Y.cell? ⟨J, 1, .none⟩ = some (.int .i64 c) := rowCells by3 1
  have j2 : Y.cell? ⟨J, 2, .none⟩ = some (.int .i64 m) := rowCells by3 2
  have hbk := Lib.hid ((back_any xs v2 Y hrY (by omega)).mono (R' := fun e w' => ∃ v', e = .returned v' ∧ Below Y.heap.size Y w' ∧ RdC w' v' xs) fun _ _ ⟨v', h1, h2, h3⟩ => ⟨v', h1, h2, h3.rd⟩)
  have hfit : ∀ c ∈ xs, c.fit := fun c hc => (hwf c hc).2.2.2.2.2
  have hsame := Lib.hid (fun W v' (hW : Below Y.heap.size Y W) (hv : RdC W v' xs) => (refSame_row xs xs v' v3 W hv (hr3Y.below hW) hfit hfit).mono (R' := fun e w' => e = .returned (.bool true) ∧ Below W.heap.size W w') fun _ _ ⟨h3, h4⟩ => ⟨by rw [h3, sameL_self], h4⟩)
  have lHY := (Array.getElem?_eq_some_iff.1 bxY).1
  have hKY := Lib.hid (fun W (hW : Below Y.heap.size Y W) => (hW.block H lHY).trans bxY)
  have hprint := Lib.hid (fun W (hW : Below Y.heap.size Y W) => print_any p c m hp hc hm xs v2 W (hrY.below hW) hwf hlen hsm (hL1.below (hBY.out.trans (hW.mono hBY.out.size))))
  have hLe : Hid (Below w.heap.size w Y) := Lib.hid (hB.out.trans (hBY.out.mono hB.out.size))
  clear hr3 hc3 hb3 hXY hrX hBX bx bxY by3 lH hL1 hp2 hfit hr3Y hrY lHY hlen hsm hwf
  go_upto_region 9 with (first
    | (go_at_call 18; refine hbk.out.mono ?_; rintro r w4 ⟨v4, rfl, hb4, hr4⟩)
    | (go_at_call 17; refine (hsame.out _ _ hb4 hr4).mono ?_; rintro r w5 ⟨rfl, hb5⟩) | fail)
  have hb45 := hb4.trans (hb5.mono hb4.size)
  have bx5 := hKY.out w5 hb45
  have q0 : w5.cell? ⟨H, 0, .none⟩ = some (.int .i64 p) := rowCells bx5 0
  have q1 : w5.cell? ⟨H, 1, .none⟩ = some (.int .i64 c) := rowCells bx5 1
  have q2 : w5.cell? ⟨H, 2, .none⟩ = some (.int .i64 m) := rowCells bx5 2
  have hpr5 := Lib.hid (hprint.out w5 hb45)
  have hL5 := Lib.hid (hLe.out.trans (hb45.mono hLe.out.size))
  clear hprint hsame hbk hKY hb4 hb5 hb45 hr4 bx5 k0 k1 k2 j0 j1 j2
  replace hpr0 := Lib.hid hpr0
  by_cases he : er = 0
  · have hpo1 := hpr0.out he
    rw [hpo1] at hpr5
    clear hpo1 hpr0
    subst he
    go_wp2_with (go_at_call 12; refine hpr5.out.mono ?_; rintro r w6 ⟨rfl, hb6⟩)
    go_ret
    exact ⟨ret_bool (by simp), hL5.out.trans (hb6.mono hL5.out.size)⟩
  · have e1 : (er == 0) = false := by simpa using he
    have e2 : (er != 0) = true := by simpa using he
    replace he := Lib.hid he
    generalize printO p c m xs = PO at *
    obtain ⟨PL, PE⟩ := PO
    dsimp only at hpr5
    go_wp2_with (go_at_call 12; refine hpr5.out.mono ?_; rintro r w6 ⟨rfl, hb6⟩)
    all_goals go_ret
    all_goals exact ⟨rfl, hL5.out.trans (hb6.mono hL5.out.size)⟩
end Go.Proofs.YtkeiehgojclecaaDoor

/- The walk of package script's show. -/
import Derived.Test.YtkeiehgojclecaaDoorScrA

namespace Go.Proofs.YtkeiehgojclecaaDoor

open Go.RowKit

attribute [local go_sem ↓] Go.wp_at_zero Go.wp_at_succ

/-- A choice's line. -/
def showL (c : Ch) : Option (List UInt8) :=
  if c.kind = 1 then some (wordsL [115, 116, 97, 114, 116] [c.client] ++ [32] ++ wrL c.bias)
  else if c.kind = 2 then askL c
  else if c.kind = 3 then some (wordsL [115, 116, 101, 112] [c.client])
  else if c.kind = 4 then some (wordsL [107, 105, 108, 108] [c.client])
  else none
theorem wrL_length {x : Nat} (h : x < 18446744073709551616) : (wrL x).length ≤ 16 := by
  unfold wrL
  split
  · simp
  · rw [pad16_length h]; omega
set_option maxRecDepth 100000 in
set_option maxHeartbeats 2000000 in
theorem show_any (c : Ch) (hc : c.wf) (w : World) (h : Laid w) :
    Calls Tryd.prog 26 #[c.val] w fun e w' => (∃ s : List UInt8, e = .returned (.tuple #[.string (S s), .bool (showL c).isSome]) ∧ ∀ r, showL c = some r → s = r) ∧ Below w.heap.size w w' := by
  obtain ⟨c1, c2, c3, c4, c5, c6, hdef⟩ : ∃ c1 c2 c3 c4 c5 c6, c = ⟨c1, c2, c3, c4, c5, c6⟩ := ⟨_, _, _, _, _, _, rfl⟩
  have hask := Lib.hid (fun X hX => asked_any c hc X (h.below (w' := X) hX))
  subst hdef
  obtain ⟨_, w2, _, _, _, w6⟩ := hc
  dsimp only at w2 w6
  have hb0 := (Below.refl w.heap.size w).alloc (Nat.le_refl _) (.cells #[.int .i64 c1, .int .i64 c2, .int .i64 c3, .int .i64 c4, .int .i64 c5, .float .f64 c6] 46)
  have bx := heap_alloc_new w (.cells #[.int .i64 c1, .int .i64 c2, .int .i64 c3, .int .i64 c4, .int .i64 c5, .float .f64 c6] 46)
  unfold Ch.val at *
  go_enter Tryd.func26, Tryd.ntmps26
  go_upto_region 1 with fail
  generalize w.alloc (.cells #[.int .i64 c1, .int .i64 c2, .int .i64 c3, .int .i64 c4, .int .i64 c5, .float .f64 c6] 46) = W at *
  have hL := h.below hb0
  have hbW := hb0
  obtain ⟨H, hH, hH'⟩ : ∃ H, Hid (H = w.heap.size) ∧ H = w.heap.size := ⟨_, Lib.hid rfl, rfl⟩
  rw [← hH'] at bx ⊢
  clear hH' hb0
  have r0 : W.cell? ⟨H, 0, .none⟩ = some (.int .i64 c1) := rowCells bx 0
  have r1 : W.cell? ⟨H, 1, .none⟩ = some (.int .i64 c2) := rowCells bx 1
  have r2 : W.cell? ⟨H, 2, .none⟩ = some (.int .i64 c3) := rowCells bx 2
  have r3 : W.cell? ⟨H, 3, .none⟩ = some (.int .i64 c4) := rowCells bx 3
  have r4 : W.cell? ⟨H, 4, .none⟩ = some (.int .i64 c5) := rowCells bx 4
  have r5 : W.cell? ⟨H, 5, .none⟩ = some (.float .f64 c6) := rowCells bx 5
  have l0 : H < W.heap.size := (Array.getElem?_eq_some_iff.1 bx).1
  have hfW : Hid (∀ X, Below W.heap.size W X → Below w.heap.size w X) := Lib.hid fun X hb => hbW.trans (hb.mono hbW.size)
  have hK : ∀ X, Below W.heap.size W X → (X.cell? ⟨H, 1, .none⟩ = some (.int .i64 c2) ∧ X.cell? ⟨H, 5, .none⟩ = some (.float .f64 c6)) := fun X hb => ⟨keepF hb _ _ _ r1, keepF hb _ _ _ r5⟩
  have hwd : Hid (∀ (p : List UInt8) (X : World) (g : Nat), p.length ≤ 100 → Below W.heap.size W X → X.heap[g]? = some (.cells #[.int .i64 c2] 3 (0, 0)) → Calls Tryd.prog 25 #[.string (S p), .slice (some ⟨g, 0, .none⟩) 1 1] X fun e w' => e = .returned (.string (S (wordsL p [c2]))) ∧ Below X.heap.size X w') := Lib.hid fun p X g h1 h4 h5 => words_new p [c2] X (by intro z hz; simp at hz; rw [hz]; exact w2) (by simp) (by omega) (hL.below h4) 1 g h5 rfl
  have hwr := Lib.hid (fun X hX => written_any c6 w6 X (hL.below (w' := X) hX))
  have hlw := wordsL_length [115, 116, 97, 114, 116] [c2] (by intro z hz; simp at hz; rw [hz]; exact w2)
  have hl6 := wrL_length w6
  simp only [List.length_cons, List.length_nil] at hlw
  replace hK := Lib.hid hK
  replace hask := Lib.hid (fun X hX => hask.out X (hfW.out X hX))
  clear bx hbW hL h
  by_cases k1 : c1 = 1
  · have e1 : (c1 == 1) = true := by simpa using k1
    have ha : showL ⟨c1, c2, c3, c4, c5, c6⟩ = some (wordsL [115, 116, 97, 114, 116] [c2] ++ [32] ++ wrL c6) := by unfold showL; dsimp only; rw [if_pos k1]
    replace ha := Lib.hid ha
    clear k1
    have hw4 := Lib.hid (fun X g hX hg => hwd.out [115, 116, 97, 114, 116] X g (by decide) hX hg)
    have q1 : ¬ 9223372036854775807 < (wordsL [115, 116, 97, 114, 116] [c2]).length + 1 := by omega
    have q2 : ¬ 9223372036854775807 < (wordsL [115, 116, 97, 114, 116] [c2]).length + 1 + (wrL c6).length := by omega
    have hst : Hid ((S (wordsL [115, 116, 97, 114, 116] [c2]) ++ S [32]) ++ S (wrL c6) = S (wordsL [115, 116, 97, 114, 116] [c2] ++ [32] ++ wrL c6)) := Lib.hid (by rw [S_append, S_append])
    clear hask hwd hlw hl6
    go_upto_region 3 with fail
    go_region_held3 (fun X => X.cell? ⟨H, 1, .none⟩ = some (.int .i64 c2) ∧ X.cell? ⟨H, 5, .none⟩ = some (.float .f64 c6))
      (first | exact hK.out _ (by go_grown) | fail)
      (first
        | (go_at_call 25; refine (hw4.out _ _ (by go_grown) (by first | exact heap_alloc_new W _ | exact heap_alloc_new w2' _)).mono ?_; rintro e w1 ⟨rfl, hb1⟩; have hB1 := belowTrans (w := W) (by go_grown) hb1; have hS1 := hB1.size)
        | (go_at_call 42; refine (hwr.out _ (by go_grown)).mono ?_; rintro e w2' ⟨rfl, hb2⟩; have hB2 := belowTrans (w := W) (by go_grown) hb2; have hS2 := hB2.size) | fail)
    all_goals (go_wp2; go_ret2)
    all_goals refine ⟨⟨wordsL [115, 116, 97, 114, 116] [c2] ++ [32] ++ wrL c6, ?_, fun r hr => ?_⟩, by first | exact hfW.out _ (by assumption) | exact hfW.out _ hB1⟩
    all_goals first
      | (rw [ha.out, ← hst.out]; rfl)
      | (rw [ha.out] at hr; injection hr)
  by_cases k2 : c1 = 2
  · have e1 : (c1 == 2) = true := by simpa using k2
    have f1 : (c1 == 1) = false := by simpa using k1
    have ha : showL ⟨c1, c2, c3, c4, c5, c6⟩ = askL ⟨c1, c2, c3, c4, c5, c6⟩ := by unfold showL; dsimp only; rw [if_neg k1, if_pos k2]
    replace ha := Lib.hid ha
    clear k1 k2
    clear hwd hwr hlw hl6 hK
    go_wp2_with (go_at_call 43; refine (hask.out _ (Below.refl _ _)).mono ?_; rintro e w1 ⟨⟨s, rfl, hs⟩, hb1⟩)
    go_ret2
    exact ⟨⟨s, by rw [ha.out]; rfl, fun r hr => hs r (by rw [← hr, ha.out])⟩, hfW.out _ hb1⟩
  by_cases k3 : c1 = 3
  · have e1 : (c1 == 3) = true := by simpa using k3
    have f1 : (c1 == 1) = false := by simpa using k1
    have f2 : (c1 == 2) = false := by simpa using k2
    have ha : showL ⟨c1, c2, c3, c4, c5, c6⟩ = some (wordsL [115, 116, 101, 112] [c2]) := by unfold showL; dsimp only; rw [if_neg k1, if_neg k2, if_pos k3]
    replace ha := Lib.hid ha
    clear k1 k2 k3
    have hw4 := Lib.hid (fun X g hX hg => hwd.out [115, 116, 101, 112] X g (by decide) hX hg)
    clear hask hwd hwr hlw hl6 hK
    go_wp2_with (go_at_call 25; refine (hw4.out _ _ (by go_grown) (by exact heap_alloc_new W _)).mono ?_; rintro e w1 ⟨rfl, hb1⟩; have hB1 := belowTrans (w := W) (by go_grown) hb1)
    go_ret2
    refine ⟨⟨wordsL [115, 116, 101, 112] [c2], ?_, fun r hr => ?_⟩, hfW.out _ hB1⟩
    · rw [ha.out]; rfl
    · rw [ha.out] at hr; injection hr
  by_cases k4 : c1 = 4
  · have e1 : (c1 == 4) = true := by simpa using k4
    have f1 : (c1 == 1) = false := by simpa using k1
    have f2 : (c1 == 2) = false := by simpa using k2
    have f3 : (c1 == 3) = false := by simpa using k3
    have ha : showL ⟨c1, c2, c3, c4, c5, c6⟩ = some (wordsL [107, 105, 108, 108] [c2]) := by unfold showL; dsimp only; rw [if_neg k1, if_neg k2, if_neg k3, if_pos k4]
    replace ha := Lib.hid ha
    clear k1 k2 k3 k4
    have hw4 := Lib.hid (fun X g hX hg => hwd.out [107, 105, 108, 108] X g (by decide) hX hg)
    clear hask hwd hwr hlw hl6 hK
    go_wp2_with (go_at_call 25; refine (hw4.out _ _ (by go_grown) (by exact heap_alloc_new W _)).mono ?_; rintro e w1 ⟨rfl, hb1⟩; have hB1 := belowTrans (w := W) (by go_grown) hb1)
    go_ret2
    refine ⟨⟨wordsL [107, 105, 108, 108] [c2], ?_, fun r hr => ?_⟩, hfW.out _ hB1⟩
    · rw [ha.out]; rfl
    · rw [ha.out] at hr; injection hr
  have f1 : (c1 == 1) = false := by simpa using k1
  have f2 : (c1 == 2) = false := by simpa using k2
  have f3 : (c1 == 3) = false := by simpa using k3
  have f4 : (c1 == 4) = false := by simpa using k4
  have ha : showL ⟨c1, c2, c3, c4, c5, c6⟩ = none := by unfold showL; dsimp only; rw [if_neg k1, if_neg k2, if_neg k3, if_neg k4]
  replace ha := Lib.hid ha
  clear k1 k2 k3 k4 hwd hask hwr hlw hl6 hK
  go_wp2
  go_ret2
  exact ⟨⟨[], by rw [ha.out]; rfl, fun r hr => (by rw [ha.out] at hr; cases hr)⟩, hfW.out _ (Below.refl _ _)⟩
end Go.Proofs.YtkeiehgojclecaaDoor

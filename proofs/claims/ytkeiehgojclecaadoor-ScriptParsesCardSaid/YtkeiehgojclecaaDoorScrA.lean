/- The walks of package script's asked and show. -/
import Derived.Test.YtkeiehgojclecaaDoorScrX

import Derived.Test.YtkeiehgojclecaaDoorSchP

import Derived.Deep.RegionHeld3

namespace Go.Proofs.YtkeiehgojclecaaDoor

open Go.RowKit

attribute [local go_sem ↓] Go.wp_at_zero Go.wp_at_succ

/-- The line of what a client is asked for. -/
def askL (c : Ch) : Option (List UInt8) :=
  if c.ok = 1 then (if c.oa = 0 then some (wordsL [109, 97, 108, 108, 111, 99] [c.client, c.on]) else none)
  else if c.ok = 2 then (if c.on = 0 then some (wordsL [102, 114, 101, 101] [c.client, c.oa]) else none)
  else if c.ok = 3 then some (wordsL [114, 101, 97, 108, 108, 111, 99] [c.client, c.oa, c.on])
  else if c.ok = 4 then (if c.on = 0 then some (wordsL [97, 100, 111, 112, 116] [c.client, c.oa]) else none)
  else none
def Ch.wf (c : Ch) : Prop := i64 c.kind ∧ i64 c.client ∧ i64 c.ok ∧ i64 c.oa ∧ i64 c.on ∧ c.bias < 18446744073709551616
def Ch.val (c : Ch) : Value := .agg #[.int .i64 c.kind, .int .i64 c.client, .int .i64 c.ok, .int .i64 c.oa, .int .i64 c.on, .float .f64 c.bias]
/-- A row of numbers that the walk has just made. -/
theorem words_new (p : List UInt8) (zs : List Int) (w : World) (hz : ∀ z ∈ zs, i64 z) (hn : zs.length ≤ 100) (hp : p.length ≤ 1000000) (h : Laid w) (cap g : Nat) (hg : w.heap[g]? = some (.cells (zs.map (.int .i64)).toArray 3 (0, 0))) (hcap : cap = zs.length) :
    Calls Tryd.prog 25 #[.string (S p), .slice (some ⟨g, 0, .none⟩) cap cap] w fun e w' => e = .returned (.string (S (wordsL p zs))) ∧ Below w.heap.size w w' := by
  subst hcap
  refine words_any p zs _ w ?_ hz hn hp h
  have := RdS.new (sz := 1) (n := zs.length) hg (by simp) (by omega)
  simpa [RdZ] using this
theorem ask_end (z : Int) (s : List UInt8) : (if z = 0 then some s else none).isSome = (z == 0) := by
  by_cases h : z = 0 <;> simp [h]
set_option maxRecDepth 100000 in
set_option maxHeartbeats 2000000 in
theorem asked_any (c : Ch) (hc : c.wf) (w : World) (h : Laid w) :
    Calls Tryd.prog 43 #[c.val] w fun e w' => (∃ s : List UInt8, e = .returned (.tuple #[.string (S s), .bool (askL c).isSome]) ∧ ∀ r, askL c = some r → s = r) ∧ Below w.heap.size w w' := by
  obtain ⟨c1, c2, c3, c4, c5, c6, hdef⟩ : ∃ c1 c2 c3 c4 c5 c6, c = ⟨c1, c2, c3, c4, c5, c6⟩ := ⟨_, _, _, _, _, _, rfl⟩
  subst hdef
  obtain ⟨_, w2, w3, w4, w5, _⟩ := hc
  dsimp only at w2 w3 w4 w5
  have t2 := two_blocks w (.cells #[.int .i64 c1, .int .i64 c2, .int .i64 c3, .int .i64 c4, .int .i64 c5, .float .f64 c6] 46) (.cells #[.int .i64 c3, .int .i64 c4, .int .i64 c5] 43)
  unfold Ch.val
  go_enter Tryd.func43, Tryd.ntmps43
  go_upto_region 2 with fail
  obtain ⟨bx, bo, bs, hbW⟩ := t2
  generalize (w.alloc (.cells #[.int .i64 c1, .int .i64 c2, .int .i64 c3, .int .i64 c4, .int .i64 c5, .float .f64 c6] 46)).alloc (.cells #[.int .i64 c3, .int .i64 c4, .int .i64 c5] 43) = W at *
  have hL := h.below hbW
  obtain ⟨H, hH, hH'⟩ : ∃ H, Hid (H = w.heap.size) ∧ H = w.heap.size := ⟨_, Lib.hid rfl, rfl⟩
  rw [← hH'] at bx bo bs ⊢
  clear hH'
  have r1 : W.cell? ⟨H, 1, .none⟩ = some (.int .i64 c2) := rowCells bx 1
  have o0 : W.cell? ⟨H + 1, 0, .none⟩ = some (.int .i64 c3) := rowCells bo 0
  have o1 : W.cell? ⟨H + 1, 1, .none⟩ = some (.int .i64 c4) := rowCells bo 1
  have o2 : W.cell? ⟨H + 1, 2, .none⟩ = some (.int .i64 c5) := rowCells bo 2
  have l0 : H < W.heap.size := by omega
  have l1 : H + 1 < W.heap.size := by omega
  have hfW : Hid (∀ X, Below W.heap.size W X → Below w.heap.size w X) := Lib.hid fun X hb => hbW.trans (hb.mono hbW.size)
  have hK : ∀ X, Below W.heap.size W X → (X.cell? ⟨H, 1, .none⟩ = some (.int .i64 c2) ∧ X.cell? ⟨H + 1, 1, .none⟩ = some (.int .i64 c4) ∧ X.cell? ⟨H + 1, 2, .none⟩ = some (.int .i64 c5)) := fun X hb => ⟨keepF hb _ _ _ r1, keepF hb _ _ _ o1, keepF hb _ _ _ o2⟩
  have hwd : Hid (∀ (p : List UInt8) (zs : List Int) (X : World) (g n : Nat), p.length ≤ 100 → zs.length ≤ 100 → (∀ z ∈ zs, i64 z) → Below W.heap.size W X → X.heap[g]? = some (.cells (zs.map (.int .i64)).toArray 3 (0, 0)) → n = zs.length → Calls Tryd.prog 25 #[.string (S p), .slice (some ⟨g, 0, .none⟩) n n] X fun e w' => e = .returned (.string (S (wordsL p zs))) ∧ Below X.heap.size X w') := Lib.hid fun p zs X g n h1 h2 h3 h4 h5 h6 => words_new p zs X h3 h2 (by omega) (hL.below h4) n g h5 h6
  replace hK := Lib.hid hK
  clear bx bo bs hbW hL h
  by_cases k1 : c3 = 1
  · have e1 : (c3 == 1) = true := by simpa using k1
    have ha : askL ⟨c1, c2, c3, c4, c5, c6⟩ = if c4 = 0 then some (wordsL [109, 97, 108, 108, 111, 99] [c2, c5]) else none := by unfold askL; dsimp only; rw [if_pos k1]
    replace ha := Lib.hid ha
    have hw4 := Lib.hid (fun X g hX hg => hwd.out [109, 97, 108, 108, 111, 99] [c2, c5] X g 2 (by decide) (by simp) (by intro z hz; simp at hz; rcases hz with rfl | rfl <;> assumption) hX hg rfl)
    clear k1 hwd
    go_upto_region 4 with fail
    go_region_held3 (fun X => X.cell? ⟨H, 1, .none⟩ = some (.int .i64 c2) ∧ X.cell? ⟨H + 1, 1, .none⟩ = some (.int .i64 c4) ∧ X.cell? ⟨H + 1, 2, .none⟩ = some (.int .i64 c5))
      (first | exact hK.out _ (by go_grown) | fail)
      (first
        | (go_at_call 25; refine (hw4.out _ _ (by go_grown) (by exact heap_alloc_new W _)).mono ?_; rintro e w1 ⟨rfl, hb1⟩; have hB1 := belowTrans (w := W) (by go_grown) hb1; have hS1 := hB1.size) | fail)
    go_wp2
    go_ret2
    refine ⟨⟨wordsL [109, 97, 108, 108, 111, 99] [c2, c5], ?_, fun r hr => ?_⟩, hfW.out _ hB1⟩
    · rw [ha.out, ask_end]; rfl
    · rw [ha.out] at hr
      split at hr
      · injection hr
      · cases hr
  by_cases k2 : c3 = 2
  · have e1 : (c3 == 2) = true := by simpa using k2
    have f1 : (c3 == 1) = false := by simpa using k1
    have ha : askL ⟨c1, c2, c3, c4, c5, c6⟩ = if c5 = 0 then some (wordsL [102, 114, 101, 101] [c2, c4]) else none := by unfold askL; dsimp only; rw [if_neg k1, if_pos k2]
    replace ha := Lib.hid ha
    have hw4 := Lib.hid (fun X g hX hg => hwd.out [102, 114, 101, 101] [c2, c4] X g 2 (by decide) (by simp) (by intro z hz; simp at hz; rcases hz with rfl | rfl <;> assumption) hX hg rfl)
    clear k1 k2 hwd
    go_upto_region 6 with fail
    go_region_held3 (fun X => X.cell? ⟨H, 1, .none⟩ = some (.int .i64 c2) ∧ X.cell? ⟨H + 1, 1, .none⟩ = some (.int .i64 c4) ∧ X.cell? ⟨H + 1, 2, .none⟩ = some (.int .i64 c5))
      (first | exact hK.out _ (by go_grown) | fail)
      (first
        | (go_at_call 25; refine (hw4.out _ _ (by go_grown) (by exact heap_alloc_new W _)).mono ?_; rintro e w1 ⟨rfl, hb1⟩; have hB1 := belowTrans (w := W) (by go_grown) hb1; have hS1 := hB1.size) | fail)
    go_wp2
    go_ret2
    refine ⟨⟨wordsL [102, 114, 101, 101] [c2, c4], ?_, fun r hr => ?_⟩, hfW.out _ hB1⟩
    · rw [ha.out, ask_end]; rfl
    · rw [ha.out] at hr
      split at hr
      · injection hr
      · cases hr
  by_cases k3 : c3 = 3
  · have e1 : (c3 == 3) = true := by simpa using k3
    have f1 : (c3 == 1) = false := by simpa using k1
    have f2 : (c3 == 2) = false := by simpa using k2
    have ha : askL ⟨c1, c2, c3, c4, c5, c6⟩ = some (wordsL [114, 101, 97, 108, 108, 111, 99] [c2, c4, c5]) := by unfold askL; dsimp only; rw [if_neg k1, if_neg k2, if_pos k3]
    replace ha := Lib.hid ha
    have hw4 := Lib.hid (fun X g hX hg => hwd.out [114, 101, 97, 108, 108, 111, 99] [c2, c4, c5] X g 3 (by decide) (by simp) (by intro z hz; simp at hz; rcases hz with rfl | rfl | rfl <;> assumption) hX hg rfl)
    clear k1 k2 k3 hwd
    go_wp2_with (go_at_call 25; refine (hw4.out _ _ (by go_grown) (by exact heap_alloc_new W _)).mono ?_; rintro e w1 ⟨rfl, hb1⟩; have hB1 := belowTrans (w := W) (by go_grown) hb1)
    go_ret2
    refine ⟨⟨wordsL [114, 101, 97, 108, 108, 111, 99] [c2, c4, c5], ?_, fun r hr => ?_⟩, hfW.out _ hB1⟩
    · rw [ha.out]; rfl
    · rw [ha.out] at hr; injection hr
  by_cases k4 : c3 = 4
  · have e1 : (c3 == 4) = true := by simpa using k4
    have f1 : (c3 == 1) = false := by simpa using k1
    have f2 : (c3 == 2) = false := by simpa using k2
    have f3 : (c3 == 3) = false := by simpa using k3
    have ha : askL ⟨c1, c2, c3, c4, c5, c6⟩ = if c5 = 0 then some (wordsL [97, 100, 111, 112, 116] [c2, c4]) else none := by unfold askL; dsimp only; rw [if_neg k1, if_neg k2, if_neg k3, if_pos k4]
    replace ha := Lib.hid ha
    have hw4 := Lib.hid (fun X g hX hg => hwd.out [97, 100, 111, 112, 116] [c2, c4] X g 2 (by decide) (by simp) (by intro z hz; simp at hz; rcases hz with rfl | rfl <;> assumption) hX hg rfl)
    clear k1 k2 k3 k4 hwd
    go_upto_region 10 with fail
    go_region_held3 (fun X => X.cell? ⟨H, 1, .none⟩ = some (.int .i64 c2) ∧ X.cell? ⟨H + 1, 1, .none⟩ = some (.int .i64 c4) ∧ X.cell? ⟨H + 1, 2, .none⟩ = some (.int .i64 c5))
      (first | exact hK.out _ (by go_grown) | fail)
      (first
        | (go_at_call 25; refine (hw4.out _ _ (by go_grown) (by exact heap_alloc_new W _)).mono ?_; rintro e w1 ⟨rfl, hb1⟩; have hB1 := belowTrans (w := W) (by go_grown) hb1; have hS1 := hB1.size) | fail)
    go_wp2
    go_ret2
    refine ⟨⟨wordsL [97, 100, 111, 112, 116] [c2, c4], ?_, fun r hr => ?_⟩, hfW.out _ hB1⟩
    · rw [ha.out, ask_end]; rfl
    · rw [ha.out] at hr
      split at hr
      · injection hr
      · cases hr
  have f1 : (c3 == 1) = false := by simpa using k1
  have f2 : (c3 == 2) = false := by simpa using k2
  have f3 : (c3 == 3) = false := by simpa using k3
  have f4 : (c3 == 4) = false := by simpa using k4
  have ha : askL ⟨c1, c2, c3, c4, c5, c6⟩ = none := by unfold askL; dsimp only; rw [if_neg k1, if_neg k2, if_neg k3, if_neg k4]
  replace ha := Lib.hid ha
  clear k1 k2 k3 k4 hwd
  go_wp2
  go_ret2
  exact ⟨⟨[], by rw [ha.out]; rfl, fun r hr => (by rw [ha.out] at hr; cases hr)⟩, hfW.out _ (Below.refl _ _)⟩
end Go.Proofs.YtkeiehgojclecaaDoor

/- The walk of the law ScriptPrints. -/
import Derived.Test.YtkeiehgojclecaaDoorScrO

import Derived.Test.YtkeiehgojclecaaDoorSchK

namespace Go.Proofs.YtkeiehgojclecaaDoor

open Go.RowKit

attribute [local go_sem ↓] Go.wp_at_zero Go.wp_at_succ

set_option maxRecDepth 100000 in
set_option maxHeartbeats 400000 in
theorem room22_any (l : List Ch) (v : Value) (n : Nat) (w : World) (hr : RdC w v l) : Calls Tryd.prog 9 #[v, .int .i64 n] w fun e w' => e = .returned (.bool (decide (l.length ≤ n))) ∧ w' = w := by
  obtain ⟨ao, cap, rfl, _, _, _⟩ := hr
  go_enter Tryd.func9, Tryd.ntmps9
  go_wp2_with fail
  go_ret
  refine ⟨ret_bool ?_, rfl⟩
  simp
set_option maxRecDepth 100000 in
set_option maxHeartbeats 1000000 in
theorem prints_any (p c m : Int) (hp : i64 p) (hc : i64 c) (hm : i64 m) (l : List Ch) (v : Value) (w : World) (hr : RdC w v l) (hf : ∀ c ∈ l, c.wf) (h : Laid w) :
    Calls Tryd.prog 4 #[.agg #[.int .i64 p, .int .i64 c, .int .i64 m], v] w fun e w' => e = .returned (.bool true) ∧ Below w.heap.size w w' := by
  have hb0 := (Below.refl w.heap.size w).alloc (Nat.le_refl _) (.cells #[.int .i64 p, .int .i64 c, .int .i64 m] 26)
  have bx := heap_alloc_new w (.cells #[.int .i64 p, .int .i64 c, .int .i64 m] 26)
  go_enter Tryd.func4, Tryd.ntmps4
  go_upto_region 1 with fail
  generalize w.alloc (.cells #[.int .i64 p, .int .i64 c, .int .i64 m] 26) = W at *
  obtain ⟨H, hH, hH'⟩ : ∃ H, Hid (H = w.heap.size) ∧ H = w.heap.size := ⟨_, Lib.hid rfl, rfl⟩
  rw [← hH'] at bx ⊢
  clear hH'
  have hL := h.below hb0
  have l0 : H < W.heap.size := (Array.getElem?_eq_some_iff.1 bx).1
  have haw := Lib.hid (awake25_any W hL)
  go_upto_region 3 with (go_at_call 8; refine haw.out.mono ?_; rintro r w1 ⟨rfl, hb1⟩)
  have hB := hb0.trans (hb1.mono hb0.size)
  have bx1 := (hb1.block H l0).trans bx
  have hr1 := hr.below hB
  have hL1 := h.below hB
  have l1 : H < w1.heap.size := (Array.getElem?_eq_some_iff.1 bx1).1
  have hroom := Lib.hid (room22_any l v 300 w1 hr1)
  clear hL bx hb1 hb0 l0 haw hr h
  by_cases hn : l.length ≤ 300
  · have hd : decide (l.length ≤ 300) = true := by simpa using hn
    rw [hd] at hroom
    clear hd
    go_upto_region 5 with (go_at_call 9; refine hroom.out.mono ?_; rintro r w2 ⟨rfl, hw⟩; obtain rfl := hw.symm)
    have hch := Lib.hid (fun X (hX : Below w1.heap.size w1 X) => (choices_any l v X (hr1.below hX) (by omega)).mono (R' := fun e w' => ∃ v', e = .returned v' ∧ Below X.heap.size X w' ∧ RdC w' v' l) fun _ _ ⟨v', h1, h2, h3⟩ => ⟨v', h1, h2, h3.rd⟩)
    have hpr := Lib.hid (fun X v' (hX : Below w1.heap.size w1 X) (hv : RdC X v' l) => print_any p c m hp hc hm l v' X hv hf (by omega) (small_text hp hc hm hf (by omega)) (hL1.below hX))
    have hrp := Lib.hid (fun X (hX : Below w1.heap.size w1 X) => rprint_any p c m hp hc hm l v X (hr1.below hX) hf (by omega) (small_text hp hc hm hf (by omega)))
    have hK : Hid (∀ X, Below w1.heap.size w1 X → X.cell? ⟨H, 0, .none⟩ = some (.int .i64 p) ∧ X.cell? ⟨H, 1, .none⟩ = some (.int .i64 c) ∧ X.cell? ⟨H, 2, .none⟩ = some (.int .i64 m)) := Lib.hid fun X hX =>
      ⟨(cell_blk (hX.block H l1)).trans (rowCells bx1 0), (cell_blk (hX.block H l1)).trans (rowCells bx1 1), (cell_blk (hX.block H l1)).trans (rowCells bx1 2)⟩
    obtain ⟨y0, y1, y2⟩ := hK.out w1 (Below.refl _ _)
    clear hL1 hr1 bx1 hroom
    go_region_held3 (fun X => X.cell? ⟨H, 0, .none⟩ = some (.int .i64 p) ∧ X.cell? ⟨H, 1, .none⟩ = some (.int .i64 c) ∧ X.cell? ⟨H, 2, .none⟩ = some (.int .i64 m))
      (first | exact hK.out _ (by go_grown) | fail)
      (first
        | (go_at_call 13; refine (hch.out _ (by go_grown)).mono ?_; rintro e w2 ⟨v', rfl, hb2, hv2⟩; have hB2 := belowTrans (w := w1) (by go_grown) hb2; have hS2 := hB2.size)
        | (go_at_call 12; refine (hpr.out _ _ (by go_grown) (by exact hv2)).mono ?_; rintro e w3 ⟨rfl, hb3⟩; have hB3 := belowTrans (w := w1) (by go_grown) hb3; have hS3 := hB3.size) | fail)
    obtain ⟨k0, k1, k2⟩ := hK.out w3 hB3
    have hrp3 := Lib.hid (hrp.out w3 hB3)
    clear hrp hpr hch hK
    generalize printO p c m l = PO at *
    go_wp2_with (go_at_call 10; refine hrp3.out.mono ?_; rintro e w4 ⟨rfl, hb4⟩)
    go_ret
    exact ⟨ret_bool (by simp), hB.trans ((hB3.trans (hb4.mono hB3.size)).mono hB.size)⟩
  · have hd : decide (l.length ≤ 300) = false := by simpa using hn
    rw [hd] at hroom
    clear hd
    go_wp2_with (go_at_call 9; refine hroom.out.mono ?_; rintro r w2 ⟨rfl, hw⟩; obtain rfl := hw.symm)
    go_ret
    exact ⟨rfl, hB⟩
end Go.Proofs.YtkeiehgojclecaaDoor

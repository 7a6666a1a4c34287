/- Lines, read: the walks of package script's start and op. -/
import Derived.Test.YtkeiehgojclecaaDoorScrF

import Derived.Test.YtkeiehgojclecaaDoorScrB

namespace Go.Proofs.YtkeiehgojclecaaDoor

open Go.RowKit

attribute [local go_sem ↓] Go.wp_at_zero Go.wp_at_succ

attribute [local go_sem high] run_cut_l run_cut_h run_cut_lh

attribute [local go_sem] run_store_float

/-- What a client is asked for. -/
def opV (k c x y : Int) : Ch := ⟨2, c, k, if k = 1 then 0 else x, if k = 1 then x else if k = 3 then y else 0, 0⟩
set_option maxRecDepth 100000 in
set_option maxHeartbeats 400000 in
theorem op_any (k : Int) (hk : k = 1 ∨ k = 2 ∨ k = 3 ∨ k = 4) (v : Value) (c x : Int) (zs : List Int) (y : Int) (hy : k = 3 → zs = [y]) (w : World) (hr : RdZ .i64 w v (c :: x :: zs)) :
    Calls Tryd.prog 39 #[.int .i64 k, v] w fun e w' => e = .returned (opV k c x y).val ∧ Below w.heap.size w w' := by
  obtain ⟨ao, cap, rfl, hcap, hcap2, hcc1⟩ := hr.cells
  obtain ⟨d, off, rfl, hd, hcc⟩ := hcc1 (by simp)
  have z0 : w.cell? ⟨d, off, .none⟩ = some (.int .i64 c) := hcc 0 (by simp)
  have z1 : w.cell? ⟨d, off + 1, .none⟩ = some (.int .i64 x) := hcc 1 (by simp)
  have z2 : k = 3 → w.cell? ⟨d, off + 2, .none⟩ = some (.int .i64 y) := fun h => by
    have := hcc 2 (by simp [hy h])
    simpa [hy h] using this
  obtain ⟨n, hn, hn'⟩ : ∃ n, Hid (n = (c :: x :: zs).length) ∧ n = (c :: x :: zs).length := ⟨_, Lib.hid rfl, rfl⟩
  rw [← hn']
  have l0 : (0 : Int) < (n : Int) := by rw [hn']; simp; omega
  have l1 : (1 : Int) < (n : Int) := by rw [hn']; simp; omega
  have l2 : k = 3 → (2 : Int) < (n : Int) := fun h => by rw [hn', hy h]; simp
  clear hcc hcc1 hr hcap hn'
  have hy' := Lib.hid hy
  clear hy
  rcases hk with rfl | rfl | rfl | rfl
  · clear z2 l2
    go_enter Tryd.func39, Tryd.ntmps39
    go_wp2_with fail
    exact bodyPost_ret (v := (opV 1 c x y).val) (by simp [results, Tryd.results39, go_sem, opV, Ch.val]) rfl ⟨rfl, by go_grown⟩
  · clear z2 l2
    go_enter Tryd.func39, Tryd.ntmps39
    go_wp2_with fail
    exact bodyPost_ret (v := (opV 2 c x y).val) (by simp [results, Tryd.results39, go_sem, opV, Ch.val]) rfl ⟨rfl, by go_grown⟩
  · replace z2 := z2 rfl
    replace l2 := l2 rfl
    go_enter Tryd.func39, Tryd.ntmps39
    go_wp2_with fail
    go_region
    all_goals go_wp2_with fail
    all_goals exact bodyPost_ret (v := (opV 3 c x y).val) (by simp [results, Tryd.results39, go_sem, opV, Ch.val]) rfl ⟨rfl, by go_grown⟩
  · clear z2 l2
    go_enter Tryd.func39, Tryd.ntmps39
    go_wp2_with fail
    exact bodyPost_ret (v := (opV 4 c x y).val) (by simp [results, Tryd.results39, go_sem, opV, Ch.val]) rfl ⟨rfl, by go_grown⟩
set_option maxRecDepth 100000 in
set_option maxHeartbeats 400000 in
theorem start_any (ls : List (List UInt8)) (v : Value) (w : World) (hr : RdT w v ls) (hl : ∀ l ∈ ls, l.length ≤ 281474976710656) (h : Laid w) :
    Calls Tryd.prog 38 #[v] w fun e w' => (∃ c : Ch, e = .returned (.tuple #[c.val, .bool (startO ls).isSome]) ∧ ∀ r, startO ls = some r → c = r) ∧ Below w.heap.size w w' := by
  obtain ⟨ao, cap, rfl, hcap, hcap2, hcc1⟩ := hr.cells
  have hb0 := (Below.refl w.heap.size w).alloc (Nat.le_refl _) (.cells #[.int .i64 0, .int .i64 0, .int .i64 0, .int .i64 0, .int .i64 0, .float .f64 0] 46)
  have bx := heap_alloc_new w (.cells #[.int .i64 0, .int .i64 0, .int .i64 0, .int .i64 0, .int .i64 0, .float .f64 0] 46)
  by_cases h2 : ls.length = 2
  · obtain ⟨a, b, rfl⟩ : ∃ a b, ls = [a, b] := by
      match ls, h2 with
      | [a, b], _ => exact ⟨a, b, rfl⟩
    obtain ⟨d, off, rfl, hd, hcc⟩ := hcc1 (by simp)
    have z0 : w.cell? ⟨d, off, .none⟩ = some (.string (S a)) := hcc 0 (by simp)
    have z1 : w.cell? ⟨d, off + 1, .none⟩ = some (.string (S b)) := hcc 1 (by simp)
    clear hcc hcc1 hr h2 hcap
    have hna := Lib.hid (fun X hX => number_any a (hl a (by simp)) X (h.below (w' := X) hX))
    have hrb := Lib.hid (fun X hX => read_any b (hl b (by simp)) X (h.below (w' := X) hX))
    have hl2 : [a, b].length = 2 := rfl
    rw [hl2]
    clear hl2 hl
    go_enter Tryd.func38, Tryd.ntmps38
    go_upto_region 3 with fail
    have y0 := (hb0.cell (p := ⟨d, off, .none⟩) hd).trans z0
    have y1 := (hb0.cell (p := ⟨d, off + 1, .none⟩) hd).trans z1
    have hd1 := Nat.lt_of_lt_of_le hd hb0.size
    generalize w.alloc (.cells #[.int .i64 0, .int .i64 0, .int .i64 0, .int .i64 0, .int .i64 0, .float .f64 0] 46) = W at *
    obtain ⟨H, hH, hH'⟩ : ∃ H, Hid (H = w.heap.size) ∧ H = w.heap.size := ⟨_, Lib.hid rfl, rfl⟩
    rw [← hH'] at bx ⊢
    clear hH' z0 z1
    have l0 : H < W.heap.size := (Array.getElem?_eq_some_iff.1 bx).1
    go_upto_region 4 with (go_at_call 50; refine (hna.out W hb0).mono ?_; rintro r w1 ⟨⟨c, rfl, hc⟩, hb1⟩; replace hc := Lib.hid hc)
    have hB1 := hb0.trans (hb1.mono hb0.size)
    have bx1 := (hb1.block H l0).trans bx
    have l1 : H < w1.heap.size := (Array.getElem?_eq_some_iff.1 bx1).1
    have x1 := (hb1.cell (p := ⟨d, off + 1, .none⟩) hd1).trans y1
    clear y0 y1 bx hb1 hb0
    go_upto_region 5 with (go_at_call 51; refine (hrb.out w1 hB1).mono ?_; rintro r w2 ⟨⟨x, rfl, _, hx⟩, hb2⟩; replace hx := Lib.hid hx)
    have hB2 := hB1.trans (hb2.mono hB1.size)
    have bx2 := (hb2.block H l1).trans bx1
    clear x1 bx1 hb2 hB1
    have q0 : w2.cell? ⟨H, 0, .none⟩ = some (.int .i64 0) := rowCells bx2 0
    have q1 : w2.cell? ⟨H, 1, .none⟩ = some (.int .i64 0) := rowCells bx2 1
    have q2 : w2.cell? ⟨H, 2, .none⟩ = some (.int .i64 0) := rowCells bx2 2
    have q3 : w2.cell? ⟨H, 3, .none⟩ = some (.int .i64 0) := rowCells bx2 3
    have q4 : w2.cell? ⟨H, 4, .none⟩ = some (.int .i64 0) := rowCells bx2 4
    have q5 : w2.cell? ⟨H, 5, .none⟩ = some (.float .f64 0) := rowCells bx2 5
    have qf := rowFree bx2
    have hso : Hid (startO [a, b] = (numO a).bind fun c => (rdO b).map fun x => ⟨1, c, 0, 0, 0, x⟩) := Lib.hid rfl
    have hH' := hH.out
    have hend : Hid (∀ u0 u1 u2 u3 u4 u5, Below w.heap.size w ((((((w2.setCell ⟨H, 0, .none⟩ u0).setCell ⟨H, 1, .none⟩ u1).setCell ⟨H, 2, .none⟩ u2).setCell ⟨H, 3, .none⟩ u3).setCell ⟨H, 4, .none⟩ u4).setCell ⟨H, 5, .none⟩ u5)) :=
      Lib.hid fun _ _ _ _ _ _ => (((((hB2.setCell (Nat.le_of_eq hH'.symm) _).setCell (Nat.le_of_eq hH'.symm) _).setCell (Nat.le_of_eq hH'.symm) _).setCell (Nat.le_of_eq hH'.symm) _).setCell (Nat.le_of_eq hH'.symm) _).setCell (Nat.le_of_eq hH'.symm) _
    clear hH'
    cases ha : numO a with
    | some r0 =>
      have hc := hc.out r0 ha
      subst hc
      rw [ha] at hso
      clear ha
      go_wp2_with fail
      refine bodyPost_ret (v := .tuple #[Ch.val ⟨1, c, 0, 0, 0, x⟩, .bool (rdO b).isSome]) (by simp [results, Tryd.results38, go_sem, Ch.val, q0, q1, q2, q3, q4, q5]) rfl ⟨⟨_, by rw [hso.out]; cases rdO b <;> rfl, fun r hr => ?_⟩, hend.out _ _ _ _ _ _⟩
      rw [hso.out] at hr
      cases hr2 : rdO b with
      | none => rw [hr2] at hr; cases hr
      | some z => rw [hr2] at hr; have := hx.out z hr2; subst this; injection hr
    | none =>
      rw [ha] at hso
      clear ha
      go_wp2_with fail
      refine bodyPost_ret (v := .tuple #[Ch.val ⟨1, c, 0, 0, 0, x⟩, .bool false]) (by simp [results, Tryd.results38, go_sem, Ch.val, q0, q1, q2, q3, q4, q5]) rfl ⟨⟨_, by rw [hso.out]; rfl, fun r hr => ?_⟩, hend.out _ _ _ _ _ _⟩
      rw [hso.out] at hr; cases hr
  · have hno : Hid (startO ls = none) := by
      refine Lib.hid ?_
      unfold startO
      split
      · simp at h2
      · rfl
    clear hcc1 hr hl
    have e2 : ((ls.length : Int) != 2) = true := by simp; omega
    replace h2 := Lib.hid h2
    clear bx hb0
    go_enter Tryd.func38, Tryd.ntmps38
    go_wp2_with fail
    refine bodyPost_ret (v := .tuple #[Ch.val ⟨0, 0, 0, 0, 0, 0⟩, .bool false]) (by simp [results, Tryd.results38, go_sem, Ch.val]) rfl ⟨⟨_, by rw [hno.out]; rfl, fun r hr => ?_⟩, by go_grown⟩
    rw [hno.out] at hr; cases hr
end Go.Proofs.YtkeiehgojclecaaDoor

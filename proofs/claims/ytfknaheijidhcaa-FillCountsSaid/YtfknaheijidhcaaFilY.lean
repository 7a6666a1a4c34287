/- How full a heap is: what a statement leans on: an empty heap has no shares. -/
import Derived.Test.YtfknaheijidhcaaFilX

import Derived.Test.YtfknaheijidhcaaRefK

namespace Go.Proofs.Ytfknaheijidhcaa

open Go.RowKit Fl

attribute [local go_sem ↓] Go.wp_at_zero Go.wp_at_succ

def rowU (xs : List Int) : Array Value := (xs.map (Value.int .u64)).toArray
theorem rowU_blank (T : Nat) : rowU (List.replicate T 0) = madeCells #[.int .u64 0] T := by
  apply Array.toList_inj.1
  rw [toList_madeCells_one]
  simp [rowU]
/-- A row of words in a block. -/
def WdAt (w : World) (G : Nat) (xs : List Int) : Prop := w.heap[G]? = some (.cells (rowU xs) 41 (0, 0))
section

variable {w w' : World} {G : Nat} {xs : List Int}

theorem WdAt.lt (h : WdAt w G xs) : G < w.heap.size := (Array.getElem?_eq_some_iff.1 h).1
theorem WdAt.of (h : WdAt w G xs) (hb : Below w.heap.size w w') : WdAt w' G xs := (hb.block _ h.lt).trans h
theorem WdAt.set (h : WdAt w G xs) (j : Nat) (x : Int) : WdAt (w.setCell ⟨G, j, .none⟩ (.int .u64 x)) G (xs.set j x) := by
  unfold WdAt at *
  rw [heap_setCell_same w G j _ _ _ h]
  simp only [rowU, List.map_set, List.setIfInBounds_toArray]
theorem WdAt.cell (h : WdAt w G xs) (j : Nat) (hj : j < xs.length) : w.cell? ⟨G, j, .none⟩ = some (.int .u64 xs[j]) := by
  refine (rowCells h j).trans ?_
  simp [rowU, hj]
theorem WdAt.fr (h : WdAt w G xs) (j : Nat) : w.frozen? ⟨G, j, .none⟩ = false := rowFree h j
theorem WdAt.rd (h : WdAt w G xs) (hl : xs.length ≤ 100000) : RdZ .u64 w (.slice (some ⟨G, 0, .none⟩) xs.length xs.length) xs := by
  have := RdS.new (w := w) (g := G) (cs := rowU xs) (t := 41) (sz := 1) (n := xs.length) h (by simp [rowU]) (by omega)
  simpa [RdZ, rowU] using this
end

def h18 : Hp := ⟨1, 1, 0, (List.replicate 18 0).set 1 19⟩
theorem h18_fill (k : Int) : h18.fill k = ratioF 0 0 := by
  have hok : h18.ok = true := by decide +kernel
  have hp : h18.pk 0 = 3 := by decide +kernel
  have hi : h18.isC k 0 = false := by unfold Hp.isC; rw [hp]; rfl
  unfold Hp.fill
  rw [if_pos hok]
  show ratioF (h18.fT k 1) (h18.fA k 1) = _
  have h1 : h18.fT k 1 = 0 := by
    show 0 + (if h18.isC k ((0 : Nat) : Int) = true then _ else _) = _
    rw [show ((0 : Nat) : Int) = 0 from rfl, hi]; simp
  have h2 : h18.fA k 1 = 0 := by
    show 0 + (if h18.isC k ((0 : Nat) : Int) = true then _ else _) = _
    rw [show ((0 : Nat) : Int) = 0 from rfl, hi]; simp
  rw [h1, h2]
theorem h18_heap : h18.heapF = 4607182418800017408 := by decide +kernel
theorem h18_best : (bestF (fun i => h18.fill i) 4).ok = false := by
  rcases Bool.eq_false_or_eq_true (bestF (fun i => h18.fill i) 4).ok with ho | ho
  · obtain ⟨b, _, _, _, hn, _⟩ := (bestF_ok (fun i => h18.fill i) 4).2 ho
    simp only [h18_fill, nan_none] at hn
    cases hn
  · exact ho
theorem h18_fit : h18.fit := by
  intro x hx
  have : x ∈ [(0 : Int), 19] := by
    have : ∀ y ∈ (List.replicate 18 (0 : Int)).set 1 19, y ∈ [(0 : Int), 19] := by decide
    exact this x hx
  simp at this; omega
theorem same24_any (x y : Nat) (hx : x < 18446744073709551616) (hy : y < 18446744073709551616) (w : World) : Calls Try.prog 27 #[F64 x, F64 y] w fun e w' => e = .returned (.bool (decide (key x = key y))) ∧ w' = w := by
  go_enter Try.func27, Try.ntmps27
  go_wp2_with (go_at_call 53; refine (refSame_any _ _ hx hy _).mono ?_; rintro e w1 ⟨rfl, rfl⟩)
  go_ret
  exact ⟨rfl, rfl⟩

set_option maxRecDepth 100000 in
set_option maxHeartbeats 2000000 in
theorem awake24_any (w : World) : Calls Try.prog 14 #[] w fun e w' => e = .returned (.bool true) ∧ Below w.heap.size w w' := by
  obtain ⟨Z, hZ, hZl⟩ : ∃ Z : List Int, Hid (Z = List.replicate 18 0) ∧ Z.length = 18 := ⟨_, Lib.hid rfl, rfl⟩
  obtain ⟨Y, hY⟩ : ∃ Y : List Int, Hid (Y = h18.xs) := ⟨_, Lib.hid rfl⟩
  have hZY : Hid (Z.set 1 19 = Y) := Lib.hid (by rw [hZ.out, hY.out]; rfl)
  have hmk : ∀ u : World, (Instr.makeSlice 24 (.int .i64 18) (.int .i64 18)).run Try.prog u = .ok (.slice (some ⟨u.heap.size, 0, .none⟩) 18 18) (u.alloc (.cells (rowU Z) 41)) := fun u => by
    rw [hZ.out, rowU_blank]; exact make_us 18 (by omega) u
  have htt : Hid (∀ w, Calls Try.prog 12 #[.agg #[.int .i64 1, .int .i64 1, .int .i64 0]] w fun e w' => e = .returned (.int .i64 18) ∧ Below w.heap.size w w') := Lib.hid (refTotal_any 1 1 0)
  have hall : Hid (∀ G w xs, xs.length = 18 → (∀ x ∈ xs, 0 ≤ x ∧ x < 18446744073709551616) → WdAt w G xs → Calls Try.prog 15 #[.agg #[.int .i64 1, .int .i64 1, .int .i64 0], .slice (some ⟨G, 0, .none⟩) 18 18] w fun e w' => ∃ u, e = .returned u ∧ Below w.heap.size w w' ∧ RdS w' 1 u 4 (flF (fun i => Hp.fill ⟨1, 1, 0, xs⟩ i) 4)) := Lib.hid fun G w xs hl hx h => by
    have := h.rd (by omega)
    rw [hl] at this
    exact fall_any ⟨1, 1, 0, xs⟩ _ w this hx
  have hrd : Hid (∀ G w, WdAt w G Y → RdZ .u64 w (.slice (some ⟨G, 0, .none⟩) 18 18) h18.xs) := Lib.hid fun G w h => by
    rw [hY.out] at h; exact h.rd (by decide)
  have hful : Hid (∀ G w, WdAt w G Y → Calls Try.prog 16 #[.agg #[.int .i64 1, .int .i64 1, .int .i64 0], .slice (some ⟨G, 0, .none⟩) 18 18] w fun e w' => (∃ k, e = .returned (.tuple #[.int .i64 k, .bool false])) ∧ Below w.heap.size w w') := Lib.hid fun G w h => by
    have := ffullest_any h18 _ w (hrd.out G w h) h18_fit
    rw [h18_best] at this
    exact this.mono fun e w' ⟨h1, h2⟩ => ⟨⟨_, h1⟩, h2⟩
  have hcls : Hid (∀ G w, WdAt w G Y → Calls Try.prog 29 #[.agg #[.int .i64 1, .int .i64 1, .int .i64 0], .slice (some ⟨G, 0, .none⟩) 18 18, .int .i64 0] w fun e w' => e = .returned (F64 9221120237041090561) ∧ Below w.heap.size w w') := Lib.hid fun G w h => by
    have := fclass_any h18 _ 0 w (hrd.out G w h) h18_fit
    rw [h18_fill] at this
    exact this
  have hhp : Hid (∀ G w, WdAt w G Y → Calls Try.prog 17 #[.agg #[.int .i64 1, .int .i64 1, .int .i64 0], .slice (some ⟨G, 0, .none⟩) 18 18] w fun e w' => e = .returned (F64 4607182418800017408) ∧ Below w.heap.size w w') := Lib.hid fun G w h => by
    have := fheap_any h18 _ w (hrd.out G w h) h18_fit
    rw [h18_heap] at this
    exact this
  have hs1 : Hid (∀ w, Calls Try.prog 27 #[F64 9221120237041090561, F64 9221120237041090561] w fun e w' => e = .returned (.bool true) ∧ w' = w) := Lib.hid fun w => by
    have := same24_any 9221120237041090561 9221120237041090561 (by decide) (by decide) w
    rwa [decide_eq_true rfl] at this
  have hs2 : Hid (∀ w, Calls Try.prog 27 #[F64 4607182418800017408, F64 4607182418800017408] w fun e w' => e = .returned (.bool true) ∧ w' = w) := Lib.hid fun w => by
    have := same24_any 4607182418800017408 4607182418800017408 (by decide) (by decide) w
    rwa [decide_eq_true rfl] at this
  have hnan := Lib.hid (fun X => mathNaN_any X)
  have hpp := Lib.hid (fun X => refPutPage_any 3 1 X (by omega) (by omega))
  have t1 := heap_alloc_new w (.cells #[.int .i64 1, .int .i64 1, .int .i64 0] 23)
  have t2 := (Below.refl w.heap.size w).alloc (Nat.le_refl _) (.cells #[.int .i64 1, .int .i64 1, .int .i64 0] 23)
  obtain ⟨H, hH, hH'⟩ : ∃ H, Hid (H = w.heap.size) ∧ H = w.heap.size := ⟨_, Lib.hid rfl, rfl⟩
  go_enter Try.func14, Try.ntmps14
  go_upto_region 2 with fail
  generalize w.alloc (.cells #[.int .i64 1, .int .i64 1, .int .i64 0] 23) = W at *
  rw [← hH'] at t1 ⊢
  clear hH'
  have c0 : W.cell? ⟨H, 0, .none⟩ = some (.int .i64 1) := rowCells t1 0
  have c1 : W.cell? ⟨H, 1, .none⟩ = some (.int .i64 1) := rowCells t1 1
  have c2 : W.cell? ⟨H, 2, .none⟩ = some (.int .i64 0) := rowCells t1 2
  have lH : H < W.heap.size := (Array.getElem?_eq_some_iff.1 t1).1
  go_wp2_with fail
  refine (htt.out _).mono ?_
  rintro e w1 ⟨rfl, hb1⟩
  go_upto_region 3 with fail
  have hu : WdAt (w1.alloc (.cells (rowU Z) 41)) w1.heap.size Z := heap_alloc_new _ _
  have hb2 := hb1.alloc hb1.size (.cells (rowU Z) 41)
  obtain ⟨G, hG, hG'⟩ : ∃ G, Hid (G = w1.heap.size) ∧ G = w1.heap.size := ⟨_, Lib.hid rfl, rfl⟩
  have hHG : H < G := by have := hb1.size; omega
  rw [← hG'] at hu ⊢
  generalize w1.alloc (.cells (rowU Z) 41) = U at *
  clear hG' hmk hb1
  have d0 := keepF hb2 _ _ _ c0
  have d1 := keepF hb2 _ _ _ c1
  have d2 := keepF hb2 _ _ _ c2
  go_wp2_with fail
  refine (hall.out G U Z hZl (fun x hx => by rw [hZ.out, List.mem_replicate] at hx; omega) hu).mono ?_
  rintro e w3 ⟨u, rfl, hb3, hru⟩
  obtain ⟨uo, ucap, rfl, _, _, _, _⟩ := hru
  have hu := hu.of hb3
  have hb3 := hb2.trans (hb3.mono hb2.size)
  clear d0 d1 d2 hb2 hall
  go_wp2_with fail
  refine (hpp.out _).mono ?_
  rintro e w4 ⟨rfl, hb4⟩
  have hu := hu.of hb4
  have g0 := hu.cell 1 (by omega)
  have g1 := hu.fr 1
  have hu2 := hu.set 1 19
  rw [hZY.out] at hu2
  have hHw := hH.out
  have hwB : Below w.heap.size w (w4.setCell ⟨G, 1, .none⟩ (.int .u64 19)) := Below.setCell (t2.trans ((hb3.trans (hb4.mono hb3.size)).mono t2.size)) (by show w.heap.size ≤ G; omega) _
  have s1 : (w4.setCell ⟨G, 1, .none⟩ (.int .u64 19)).heap[H]? = some (.cells #[.int .i64 1, .int .i64 1, .int .i64 0] 23 (0, 0)) := (heap_setCell_other w4 ⟨G, 1, .none⟩ H _ (by simp; omega)).trans (((hb3.trans (hb4.mono hb3.size)).block _ lH).trans t1)
  clear hHw hZY hpp
  go_upto_region 5 with fail
  generalize w4.setCell ⟨G, 1, .none⟩ (.int .u64 19) = V at *
  clear g0 g1 c0 c1 c2 hb3 hb4
  have c0 : V.cell? ⟨H, 0, .none⟩ = some (.int .i64 1) := rowCells s1 0
  have c1 : V.cell? ⟨H, 1, .none⟩ = some (.int .i64 1) := rowCells s1 1
  have c2 : V.cell? ⟨H, 2, .none⟩ = some (.int .i64 0) := rowCells s1 2
  go_wp2_with fail
  refine (hful.out G V hu2).mono ?_
  rintro e w5 ⟨⟨k, rfl⟩, hb5⟩
  have d0 := keepF hb5 _ _ _ c0
  have d1 := keepF hb5 _ _ _ c1
  have d2 := keepF hb5 _ _ _ c2
  have hu5 := hu2.of hb5
  go_wp2_with fail
  refine (hcls.out G w5 hu5).mono ?_
  rintro e w6 ⟨rfl, hb6⟩
  have e0 := keepF hb6 _ _ _ d0
  have e1 := keepF hb6 _ _ _ d1
  have e2 := keepF hb6 _ _ _ d2
  have hu6 := hu5.of hb6
  go_wp2_with (first
    | (go_at_call 28; refine (hnan.out _).mono ?_; rintro e w7 ⟨rfl, hw⟩; obtain rfl := hw.symm)
    | (go_at_call 27; refine (hs1.out _).mono ?_; rintro e w7 ⟨rfl, hw⟩; obtain rfl := hw.symm))
  refine (hhp.out G w6 hu6).mono ?_
  rintro e w8 ⟨rfl, hb8⟩
  go_wp2_with (go_at_call 27; refine (hs2.out _).mono ?_; rintro e w7 ⟨rfl, hw⟩; obtain rfl := hw.symm)
  go_ret
  exact ⟨rfl, hwB.trans ((hb5.trans ((hb6.trans (hb8.mono hb6.size)).mono hb5.size)).mono hwB.size)⟩
end Go.Proofs.Ytfknaheijidhcaa

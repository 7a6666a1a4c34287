/- The walk of package audit's entry. -/
import Derived.Test.YtfknaheijidhcaaAudX

import Derived.Deep.CutBlock

namespace Go.Proofs.Ytfknaheijidhcaa

open Go.RowKit

attribute [local go_sem ↓] Go.wp_at_zero Go.wp_at_succ

set_option maxRecDepth 100000 in
set_option maxHeartbeats 8000000 in
theorem entry_any (h : Hp) (v : Value) (c x : Int) (w : World) (b : Bok w v h) (hx0 : 0 ≤ x) (hx1 : x < 18446744073709551616) :
    Calls Try.prog 79 #[bookV h v, .int .i64 c, .int .u64 x] w fun e w' => (∃ (e0 e1 e2 : Int) (r : Bool), e = .returned (.tuple #[.agg #[.int .i64 e0, .int .i64 e1, .int .i64 e2], .bool r])) ∧ Below w.heap.size w w' := by
  obtain ⟨b1, _, _, _⟩ := b.bd
  obtain ⟨ao, cap, hv, _, _, _⟩ := b.rd.cells
  generalize h.xs.length = m at hv
  subst hv
  have hre := fun X => readEntry_any h.p h.c h.m x X hx0 hx1
  have hpg := fun q X (hX : Below w.heap.size w X) hq => page_any h (.slice ao m cap) q X (b.below hX) hq
  have hsl := fun q i X (hX : Below w.heap.size w X) hq hi => slot_any h (.slice ao m cap) q i X (b.below hX) hq hi
  have hin : readEntryB h.p h.c h.m x = true → (0 ≤ partV x 0 ∧ partV x 0 < h.p) ∧ (0 ≤ partV x 1 ∧ partV x 1 < 16) := fun hr => by
    unfold readEntryB at hr
    simp only [Bool.and_eq_true, decide_eq_true_eq] at hr
    have h1 := wi_iff.1 (pageIx_nonneg hr.1.2).2
    have h2 := slots_bd (partV x 2)
    have h3 := partV_bd x 1
    omega
  generalize readEntryB h.p h.c h.m x = rb at *
  generalize partV x 0 = e0 at *
  generalize partV x 1 = e1 at *
  generalize partV x 2 = e2 at *
  replace hpg := Lib.hid hpg
  replace hsl := Lib.hid hsl
  clear b
  obtain ⟨t1, t2, t3, t4⟩ := two_blocks w (.cells #[.int .i64 h.p, .int .i64 h.c, .int .i64 h.m, .slice ao m cap] 72) (.cells #[.int .i64 0, .int .i64 0, .int .i64 0] 107)
  rcases Bool.eq_false_or_eq_true rb with hrb | hrb
  case inr =>
    subst hrb
    replace hre : ∀ X, Calls Try.prog 91 #[.agg #[.int .i64 h.p, .int .i64 h.c, .int .i64 h.m], .int .u64 x] X fun e w' => Below X.heap.size X w' ∧ e = .returned (.tuple #[.agg #[.int .i64 0, .int .i64 0, .int .i64 0], .bool false]) := hre
    replace hre := Lib.hid hre
    clear hin
    go_enter Try.func79, Try.ntmps79
    go_wp2_with fail
    refine (hre.out _).mono ?_
    rintro e w1 ⟨hb1, rfl⟩
    have hb2 := hb1.alloc hb1.size (.cells #[.int .i64 0, .int .i64 0, .int .i64 0] 107)
    have s1 := (hb2.block _ (by rw [t3]; omega)).trans t2
    have hB := t4.trans (hb2.mono t4.size)
    have g1 := heap_alloc_new w1 (.cells #[.int .i64 0, .int .i64 0, .int .i64 0] 107)
    go_upto_region 2 with fail
    obtain ⟨H, hH, hH'⟩ : ∃ H, Hid (H = w.heap.size) ∧ H = w.heap.size := ⟨_, Lib.hid rfl, rfl⟩
    rw [← hH'] at s1 ⊢
    have hR : w.heap.size ≤ H + 1 := by omega
    clear hH' t1 t2 t3 t4 hb1 hb2
    generalize w1.heap.size = E at g1 ⊢
    generalize w1.alloc (.cells #[.int .i64 0, .int .i64 0, .int .i64 0] 107) = W at *
    generalize H + 1 = R at *
    have r0 : W.cell? ⟨R, 0, .none⟩ = some (.int .i64 0) := rowCells s1 0
    have r1 : W.cell? ⟨R, 1, .none⟩ = some (.int .i64 0) := rowCells s1 1
    have r2 : W.cell? ⟨R, 2, .none⟩ = some (.int .i64 0) := rowCells s1 2
    have fR := rowFree s1
    have E0 : W.cell? ⟨E, 0, .none⟩ = some (.int .i64 0) := rowCells g1 0
    have E1 : W.cell? ⟨E, 1, .none⟩ = some (.int .i64 0) := rowCells g1 1
    have E2 : W.cell? ⟨E, 2, .none⟩ = some (.int .i64 0) := rowCells g1 2
    clear s1 g1
    go_wp2
    exact bodyPost_ret (v := .tuple #[.agg #[.int .i64 0, .int .i64 0, .int .i64 0], .bool false]) (by simp [results, Try.results79, go_sem, r0, r1, r2]) rfl ⟨⟨0, 0, 0, false, rfl⟩, ((hB.setCell hR _).setCell hR _).setCell hR _⟩
  case inl =>
    subst hrb
    replace hre : ∀ X, Calls Try.prog 91 #[.agg #[.int .i64 h.p, .int .i64 h.c, .int .i64 h.m], .int .u64 x] X fun e w' => Below X.heap.size X w' ∧ e = .returned (.tuple #[.agg #[.int .i64 e0, .int .i64 e1, .int .i64 e2], .bool true]) := hre
    replace hre := Lib.hid hre
    obtain ⟨hi0, hi1⟩ := hin rfl
    have hpx := fun X hX => hpg.out e0 X hX hi0
    have hsx := fun X hX => hsl.out e0 e1 X hX hi0 hi1
    clear hin
    generalize h.pk e0 = pk at *
    generalize h.pa e0 = pa at *
    generalize h.pn e0 = pn at *
    generalize h.pb e0 = pb at *
    generalize h.sk e0 e1 = yk at *
    generalize h.sa e0 e1 = ya at *
    replace hpx := Lib.hid hpx
    replace hsx := Lib.hid hsx
    go_enter Try.func79, Try.ntmps79
    go_wp2_with fail
    refine (hre.out _).mono ?_
    rintro e w1 ⟨hb1, rfl⟩
    have hb2 := hb1.alloc hb1.size (.cells #[.int .i64 e0, .int .i64 e1, .int .i64 e2] 107)
    have s0 := (hb2.block _ (by rw [t3]; omega)).trans t1
    have s1 := (hb2.block _ (by rw [t3]; omega)).trans t2
    have hB := t4.trans (hb2.mono t4.size)
    have g1 := heap_alloc_new w1 (.cells #[.int .i64 e0, .int .i64 e1, .int .i64 e2] 107)
    go_upto_region 2 with fail
    obtain ⟨H, hH, hH'⟩ : ∃ H, Hid (H = w.heap.size) ∧ H = w.heap.size := ⟨_, Lib.hid rfl, rfl⟩
    rw [← hH'] at s0 s1 ⊢
    have hR : w.heap.size ≤ H + 1 := by omega
    have hRE : H + 1 < w1.heap.size := by have := hb1.size; omega
    clear hH' t1 t2 t3 t4 hb1 hb2
    generalize w1.heap.size = E at g1 hRE ⊢
    generalize w1.alloc (.cells #[.int .i64 e0, .int .i64 e1, .int .i64 e2] 107) = W at *
    generalize H + 1 = R at *
    have lR := (Array.getElem?_eq_some_iff.1 s1).1
    have lE := (Array.getElem?_eq_some_iff.1 g1).1
    have c0 : W.cell? ⟨H, 0, .none⟩ = some (.int .i64 h.p) := rowCells s0 0
    have c1 : W.cell? ⟨H, 1, .none⟩ = some (.int .i64 h.c) := rowCells s0 1
    have c2 : W.cell? ⟨H, 2, .none⟩ = some (.int .i64 h.m) := rowCells s0 2
    have c3 : W.cell? ⟨H, 3, .none⟩ = some (.slice ao m cap) := rowCells s0 3
    have E0 : W.cell? ⟨E, 0, .none⟩ = some (.int .i64 e0) := rowCells g1 0
    have E1 : W.cell? ⟨E, 1, .none⟩ = some (.int .i64 e1) := rowCells g1 1
    have E2 : W.cell? ⟨E, 2, .none⟩ = some (.int .i64 e2) := rowCells g1 2
    clear s0 g1
    go_wp2_with fail
    refine (hpx.out _ hB).mono ?_
    rintro e w2 ⟨rfl, hb2⟩
    have hb3 := hb2.alloc hb2.size (.cells #[.int .i64 pk, .int .i64 pa, .int .i64 pn] 79)
    have g2 := heap_alloc_new w2 (.cells #[.int .i64 pk, .int .i64 pa, .int .i64 pn] 79)
    have hB3 := hB.trans (hb3.mono hB.size)
    have s1 := (hb3.block _ lR).trans s1
    have hPR : R < w2.heap.size ∧ E < w2.heap.size := by have := hb2.size; omega
    have c0 := keepF hb3 _ _ _ c0
    have c1 := keepF hb3 _ _ _ c1
    have c2 := keepF hb3 _ _ _ c2
    have c3 := keepF hb3 _ _ _ c3
    have E0 := keepF hb3 _ _ _ E0
    have E1 := keepF hb3 _ _ _ E1
    have E2 := keepF hb3 _ _ _ E2
    go_upto_region 5 with fail
    generalize w2.heap.size = P at g2 hPR ⊢
    generalize w2.alloc (.cells #[.int .i64 pk, .int .i64 pa, .int .i64 pn] 79) = V at *
    have P0 : V.cell? ⟨P, 0, .none⟩ = some (.int .i64 pk) := rowCells g2 0
    have P1 : V.cell? ⟨P, 1, .none⟩ = some (.int .i64 pa) := rowCells g2 1
    have lP := (Array.getElem?_eq_some_iff.1 g2).1
    clear hb2 hb3 g2
    go_wp2_with fail
    refine (hsx.out _ hB3).mono ?_
    rintro e w3 ⟨rfl, hb4⟩
    have hb5 := hb4.alloc hb4.size (.cells #[.int .i64 yk, .int .i64 ya] 87)
    have g3 := heap_alloc_new w3 (.cells #[.int .i64 yk, .int .i64 ya] 87)
    have hB4 := hB3.trans (hb5.mono hB3.size)
    have s1 := (hb5.block _ (Array.getElem?_eq_some_iff.1 s1).1).trans s1
    have hYR : R < w3.heap.size := by have := hb4.size; have := (Array.getElem?_eq_some_iff.1 ‹V.heap[R]? = _›).1; omega
    have E0 := keepF hb5 _ _ _ E0
    have E1 := keepF hb5 _ _ _ E1
    have E2 := keepF hb5 _ _ _ E2
    have P0 := keepF hb5 _ _ _ P0
    have P1 := keepF hb5 _ _ _ P1
    go_upto_region 6 with fail
    generalize w3.heap.size = Y at g3 hYR ⊢
    generalize w3.alloc (.cells #[.int .i64 yk, .int .i64 ya] 87) = U at *
    have Y0 : U.cell? ⟨Y, 0, .none⟩ = some (.int .i64 yk) := rowCells g3 0
    have Y1 : U.cell? ⟨Y, 1, .none⟩ = some (.int .i64 ya) := rowCells g3 1
    have r0 : U.cell? ⟨R, 0, .none⟩ = some (.int .i64 0) := rowCells s1 0
    have r1 : U.cell? ⟨R, 1, .none⟩ = some (.int .i64 0) := rowCells s1 1
    have r2 : U.cell? ⟨R, 2, .none⟩ = some (.int .i64 0) := rowCells s1 2
    have fR := rowFree s1
    have nE : R ≠ E := by omega
    have nP : R ≠ P := by omega
    have nY : R ≠ Y := by omega
    have hB := hB4
    clear hb4 hb5 g3 s1 hB3 hB4 lR lE lP hRE hPR hYR c0 c1 c2 c3 hpg hsl hpx hsx hre hi0 hi1
    by_cases x1 : pk = 2
    case neg =>
      have x1' : (pk == 2) = false := by rw [beq_eq_false_iff_ne]; exact x1
      refine wp_region_held_drew (S := fun X => X.cell? ⟨E, 0, .none⟩ = some (.int .i64 e0) ∧ X.cell? ⟨E, 1, .none⟩ = some (.int .i64 e1) ∧ X.cell? ⟨E, 2, .none⟩ = some (.int .i64 e2) ∧ X.cell? ⟨P, 0, .none⟩ = some (.int .i64 pk) ∧ X.cell? ⟨P, 1, .none⟩ = some (.int .i64 pa) ∧ X.cell? ⟨Y, 0, .none⟩ = some (.int .i64 yk) ∧ X.cell? ⟨Y, 1, .none⟩ = some (.int .i64 ya)) (by kernel_rfl) ⟨E0, E1, E2, P0, P1, Y0, Y1⟩ (fun hHeld => ?_)
      refine wpAnyH_take (i := 0) (v := .agg #[.int .i64 e0, .int .i64 e1, .int .i64 e2]) rfl (by kernel_rfl) (by kernel_rfl) (by kernel_rfl) (fun _ _ _ h => h) (Or.inl ⟨by rfl, fun w2 ⟨q0, q1, q2, q3, q4, q5, q6⟩ => by go_simp⟩) (by assumption) ?_
      dsimp only [Act.put, List.getElem_toArray, List.getElem_cons_succ, List.getElem_cons_zero]
      simp only [List.setIfInBounds_toArray, List.set_cons_zero, List.set_cons_succ]
      refine wpAnyH_take (i := 1) (v := .pointer (some ⟨P, 0, .none⟩)) rfl (by kernel_rfl) (by kernel_rfl) (by kernel_rfl) (fun _ _ _ h => h) (Or.inl ⟨by rfl, fun w2 ⟨q0, q1, q2, q3, q4, q5, q6⟩ => by go_simp⟩) (by assumption) ?_
      dsimp only [Act.put, List.getElem_toArray, List.getElem_cons_succ, List.getElem_cons_zero]
      simp only [List.setIfInBounds_toArray, List.set_cons_zero, List.set_cons_succ]
      refine wpAnyH_take (i := 2) (v := .int .i64 pk) rfl (by kernel_rfl) (by kernel_rfl) (by kernel_rfl) (fun _ _ _ h => h) (Or.inl ⟨by rfl, fun w2 ⟨q0, q1, q2, q3, q4, q5, q6⟩ => by go_simp⟩) (by assumption) ?_
      dsimp only [Act.put, List.getElem_toArray, List.getElem_cons_succ, List.getElem_cons_zero]
      simp only [List.setIfInBounds_toArray, List.set_cons_zero, List.set_cons_succ]
      refine wpAnyH_take (i := 3) (v := .bool false) rfl (by kernel_rfl) (by kernel_rfl) (by kernel_rfl) (fun _ _ _ h => h) (Or.inl ⟨by rfl, fun w2 ⟨q0, q1, q2, q3, q4, q5, q6⟩ => by go_simp⟩) (by assumption) ?_
      dsimp only [Act.put, List.getElem_toArray, List.getElem_cons_succ, List.getElem_cons_zero]
      simp only [List.setIfInBounds_toArray, List.set_cons_zero, List.set_cons_succ]
      refine wpAnyH_take (i := 4) (v := .bool false) rfl (by kernel_rfl) (by kernel_rfl) (by kernel_rfl) (fun _ _ _ h => h) (Or.inl ⟨by rfl, fun w2 ⟨q0, q1, q2, q3, q4, q5, q6⟩ => by go_simp⟩) (by assumption) ?_
      dsimp only [Act.put, List.getElem_toArray, List.getElem_cons_succ, List.getElem_cons_zero]
      simp only [List.setIfInBounds_toArray, List.set_cons_zero, List.set_cons_succ]
      refine wpAnyH_take (i := 5) (v := undef) rfl (by kernel_rfl) (by kernel_rfl) (by kernel_rfl) (fun _ _ _ h => h) (Or.inr ⟨by rfl, rfl⟩) (by assumption) ?_
      dsimp only [Act.put, List.getElem_toArray, List.getElem_cons_succ, List.getElem_cons_zero]
      simp only [List.setIfInBounds_toArray, List.set_cons_zero, List.set_cons_succ]
      refine wpAnyH_take (i := 6) (v := undef) rfl (by kernel_rfl) (by kernel_rfl) (by kernel_rfl) (fun _ _ _ h => h) (Or.inr ⟨by rfl, rfl⟩) (by assumption) ?_
      dsimp only [Act.put, List.getElem_toArray, List.getElem_cons_succ, List.getElem_cons_zero]
      simp only [List.setIfInBounds_toArray, List.set_cons_zero, List.set_cons_succ]
      refine wpAnyH_take (i := 7) (v := undef) rfl (by kernel_rfl) (by kernel_rfl) (by kernel_rfl) (fun _ _ _ h => h) (Or.inr ⟨by rfl, rfl⟩) (by assumption) ?_
      dsimp only [Act.put, List.getElem_toArray, List.getElem_cons_succ, List.getElem_cons_zero]
      simp only [List.setIfInBounds_toArray, List.set_cons_zero, List.set_cons_succ]
      refine wpAnyH_take (i := 8) (v := undef) rfl (by kernel_rfl) (by kernel_rfl) (by kernel_rfl) (fun _ _ _ h => h) (Or.inr ⟨by rfl, rfl⟩) (by assumption) ?_
      dsimp only [Act.put, List.getElem_toArray, List.getElem_cons_succ, List.getElem_cons_zero]
      simp only [List.setIfInBounds_toArray, List.set_cons_zero, List.set_cons_succ]
      refine wpAnyH_take (i := 9) (v := undef) rfl (by kernel_rfl) (by kernel_rfl) (by kernel_rfl) (fun _ _ _ h => h) (Or.inr ⟨by rfl, rfl⟩) (by assumption) ?_
      dsimp only [Act.put, List.getElem_toArray, List.getElem_cons_succ, List.getElem_cons_zero]
      simp only [List.setIfInBounds_toArray, List.set_cons_zero, List.set_cons_succ]
      refine wpAnyH_take (i := 10) (v := .bool false) rfl (by kernel_rfl) (by kernel_rfl) (by kernel_rfl) (fun _ _ _ h => h) (Or.inl ⟨by rfl, fun w2 ⟨q0, q1, q2, q3, q4, q5, q6⟩ => by go_simp⟩) (by assumption) ?_
      dsimp only [Act.put, List.getElem_toArray, List.getElem_cons_succ, List.getElem_cons_zero]
      simp only [List.setIfInBounds_toArray, List.set_cons_zero, List.set_cons_succ]
      refine wpAnyH_take (i := 11) (v := .bool false) rfl (by kernel_rfl) (by kernel_rfl) (by kernel_rfl) (fun _ _ _ h => h) (Or.inl ⟨by rfl, fun w2 ⟨q0, q1, q2, q3, q4, q5, q6⟩ => by go_simp⟩) (by assumption) ?_
      dsimp only [Act.put, List.getElem_toArray, List.getElem_cons_succ, List.getElem_cons_zero]
      simp only [List.setIfInBounds_toArray, List.set_cons_zero, List.set_cons_succ]
      refine wpAnyH_take (i := 12) (v := undef) rfl (by kernel_rfl) (by kernel_rfl) (by kernel_rfl) (fun _ _ _ h => h) (Or.inr ⟨by rfl, rfl⟩) (by assumption) ?_
      dsimp only [Act.put, List.getElem_toArray, List.getElem_cons_succ, List.getElem_cons_zero]
      simp only [List.setIfInBounds_toArray, List.set_cons_zero, List.set_cons_succ]
      refine wpAnyH_take (i := 13) (v := undef) rfl (by kernel_rfl) (by kernel_rfl) (by kernel_rfl) (fun _ _ _ h => h) (Or.inr ⟨by rfl, rfl⟩) (by assumption) ?_
      dsimp only [Act.put, List.getElem_toArray, List.getElem_cons_succ, List.getElem_cons_zero]
      simp only [List.setIfInBounds_toArray, List.set_cons_zero, List.set_cons_succ]
      refine wpAnyH_take (i := 14) (v := undef) rfl (by kernel_rfl) (by kernel_rfl) (by kernel_rfl) (fun _ _ _ h => h) (Or.inr ⟨by rfl, rfl⟩) (by assumption) ?_
      dsimp only [Act.put, List.getElem_toArray, List.getElem_cons_succ, List.getElem_cons_zero]
      simp only [List.setIfInBounds_toArray, List.set_cons_zero, List.set_cons_succ]
      refine wpAnyH_take (i := 15) (v := .bool false) rfl (by kernel_rfl) (by kernel_rfl) (by kernel_rfl) (fun _ _ _ h => h) (Or.inl ⟨by rfl, fun w2 ⟨q0, q1, q2, q3, q4, q5, q6⟩ => by go_simp⟩) (by assumption) ?_
      dsimp only [Act.put, List.getElem_toArray, List.getElem_cons_succ, List.getElem_cons_zero]
      simp only [List.setIfInBounds_toArray, List.set_cons_zero, List.set_cons_succ]
      refine wpAnyH_take (i := 16) (v := .bool false) rfl (by kernel_rfl) (by kernel_rfl) (by kernel_rfl) (fun _ _ _ h => h) (Or.inl ⟨by rfl, fun w2 ⟨q0, q1, q2, q3, q4, q5, q6⟩ => by go_simp⟩) (by assumption) ?_
      dsimp only [Act.put, List.getElem_toArray, List.getElem_cons_succ, List.getElem_cons_zero]
      simp only [List.setIfInBounds_toArray, List.set_cons_zero, List.set_cons_succ]
      refine wpAnyH_take (i := 17) (v := undef) rfl (by kernel_rfl) (by kernel_rfl) (by kernel_rfl) (fun _ _ _ h => h) (Or.inr ⟨by rfl, rfl⟩) (by assumption) ?_
      dsimp only [Act.put, List.getElem_toArray, List.getElem_cons_succ, List.getElem_cons_zero]
      simp only [List.setIfInBounds_toArray, List.set_cons_zero, List.set_cons_succ]
      refine wpAnyH_take (i := 18) (v := undef) rfl (by kernel_rfl) (by kernel_rfl) (by kernel_rfl) (fun _ _ _ h => h) (Or.inr ⟨by rfl, rfl⟩) (by assumption) ?_
      dsimp only [Act.put, List.getElem_toArray, List.getElem_cons_succ, List.getElem_cons_zero]
      simp only [List.setIfInBounds_toArray, List.set_cons_zero, List.set_cons_succ]
      refine wpAnyH_take (i := 19) (v := undef) rfl (by kernel_rfl) (by kernel_rfl) (by kernel_rfl) (fun _ _ _ h => h) (Or.inr ⟨by rfl, rfl⟩) (by assumption) ?_
      dsimp only [Act.put, List.getElem_toArray, List.getElem_cons_succ, List.getElem_cons_zero]
      simp only [List.setIfInBounds_toArray, List.set_cons_zero, List.set_cons_succ]
      refine wpAnyH_take (i := 20) (v := undef) rfl (by kernel_rfl) (by kernel_rfl) (by kernel_rfl) (fun _ _ _ h => h) (Or.inr ⟨by rfl, rfl⟩) (by assumption) ?_
      dsimp only [Act.put, List.getElem_toArray, List.getElem_cons_succ, List.getElem_cons_zero]
      simp only [List.setIfInBounds_toArray, List.set_cons_zero, List.set_cons_succ]
      refine wpAnyH_take (i := 21) (v := .bool false) rfl (by kernel_rfl) (by kernel_rfl) (by kernel_rfl) (fun _ _ _ h => h) (Or.inl ⟨by rfl, fun w2 ⟨q0, q1, q2, q3, q4, q5, q6⟩ => by go_simp⟩) (by assumption) ?_
      dsimp only [Act.put, List.getElem_toArray, List.getElem_cons_succ, List.getElem_cons_zero]
      simp only [List.setIfInBounds_toArray, List.set_cons_zero, List.set_cons_succ]
      refine wpAnyH_ready (rs := [22]) (by kernel_rfl) (by simp) ?_
      refine AllReadyH.cons rfl (fun K hK => ?_) AllReadyH.nil
      rw [if_pos (by rfl)]
      go_simp
      refine hK.out _ _ (by go_keep) (fun hHeld => ?_)
      clear hK K
      refine wpAnyH_take (i := 23) (v := .bool false) rfl (by kernel_rfl) (by kernel_rfl) (by kernel_rfl) (fun _ _ _ h => h) (Or.inl ⟨by rfl, fun w2 ⟨q0, q1, q2, q3, q4, q5, q6⟩ => by go_simp⟩) (by assumption) ?_
      dsimp only [Act.put, List.getElem_toArray, List.getElem_cons_succ, List.getElem_cons_zero]
      simp only [List.setIfInBounds_toArray, List.set_cons_zero, List.set_cons_succ]
      refine wpAnyH_done (by kernel_rfl) ?_ _
      go_wp2
      exact bodyPost_ret (v := .tuple #[.agg #[.int .i64 e0, .int .i64 e1, .int .i64 e2], .bool false]) (by simp [results, Try.results79, go_sem, r0, r1, r2]) rfl ⟨⟨e0, e1, e2, false, rfl⟩, (((hB.setCell hR _).setCell hR _).setCell hR _).drew⟩
    subst x1
    by_cases x2 : pa = e2
    case neg =>
      have x2' : (pa == e2) = false := by rw [beq_eq_false_iff_ne]; exact x2
      refine wp_region_held_drew (S := fun X => X.cell? ⟨E, 0, .none⟩ = some (.int .i64 e0) ∧ X.cell? ⟨E, 1, .none⟩ = some (.int .i64 e1) ∧ X.cell? ⟨E, 2, .none⟩ = some (.int .i64 e2) ∧ X.cell? ⟨P, 0, .none⟩ = some (.int .i64 2) ∧ X.cell? ⟨P, 1, .none⟩ = some (.int .i64 pa) ∧ X.cell? ⟨Y, 0, .none⟩ = some (.int .i64 yk) ∧ X.cell? ⟨Y, 1, .none⟩ = some (.int .i64 ya)) (by kernel_rfl) ⟨E0, E1, E2, P0, P1, Y0, Y1⟩ (fun hHeld => ?_)
      refine wpAnyH_take (i := 0) (v := .agg #[.int .i64 e0, .int .i64 e1, .int .i64 e2]) rfl (by kernel_rfl) (by kernel_rfl) (by kernel_rfl) (fun _ _ _ h => h) (Or.inl ⟨by rfl, fun w2 ⟨q0, q1, q2, q3, q4, q5, q6⟩ => by go_simp⟩) (by assumption) ?_
      dsimp only [Act.put, List.getElem_toArray, List.getElem_cons_succ, List.getElem_cons_zero]
      simp only [List.setIfInBounds_toArray, List.set_cons_zero, List.set_cons_succ]
      refine wpAnyH_take (i := 1) (v := .pointer (some ⟨P, 0, .none⟩)) rfl (by kernel_rfl) (by kernel_rfl) (by kernel_rfl) (fun _ _ _ h => h) (Or.inl ⟨by rfl, fun w2 ⟨q0, q1, q2, q3, q4, q5, q6⟩ => by go_simp⟩) (by assumption) ?_
      dsimp only [Act.put, List.getElem_toArray, List.getElem_cons_succ, List.getElem_cons_zero]
      simp only [List.setIfInBounds_toArray, List.set_cons_zero, List.set_cons_succ]
      refine wpAnyH_take (i := 2) (v := .int .i64 2) rfl (by kernel_rfl) (by kernel_rfl) (by kernel_rfl) (fun _ _ _ h => h) (Or.inl ⟨by rfl, fun w2 ⟨q0, q1, q2, q3, q4, q5, q6⟩ => by go_simp⟩) (by assumption) ?_
      dsimp only [Act.put, List.getElem_toArray, List.getElem_cons_succ, List.getElem_cons_zero]
      simp only [List.setIfInBounds_toArray, List.set_cons_zero, List.set_cons_succ]
      refine wpAnyH_take (i := 3) (v := .bool true) rfl (by kernel_rfl) (by kernel_rfl) (by kernel_rfl) (fun _ _ _ h => h) (Or.inl ⟨by rfl, fun w2 ⟨q0, q1, q2, q3, q4, q5, q6⟩ => by go_simp⟩) (by assumption) ?_
      dsimp only [Act.put, List.getElem_toArray, List.getElem_cons_succ, List.getElem_cons_zero]
      simp only [List.setIfInBounds_toArray, List.set_cons_zero, List.set_cons_succ]
      refine wpAnyH_take (i := 4) (v := .bool true) rfl (by kernel_rfl) (by kernel_rfl) (by kernel_rfl) (fun _ _ _ h => h) (Or.inl ⟨by rfl, fun w2 ⟨q0, q1, q2, q3, q4, q5, q6⟩ => by go_simp⟩) (by assumption) ?_
      dsimp only [Act.put, List.getElem_toArray, List.getElem_cons_succ, List.getElem_cons_zero]
      simp only [List.setIfInBounds_toArray, List.set_cons_zero, List.set_cons_succ]
      refine wpAnyH_take (i := 5) (v := .pointer (some ⟨P, 1, .none⟩)) rfl (by kernel_rfl) (by kernel_rfl) (by kernel_rfl) (fun _ _ _ h => h) (Or.inl ⟨by rfl, fun w2 ⟨q0, q1, q2, q3, q4, q5, q6⟩ => by go_simp⟩) (by assumption) ?_
      dsimp only [Act.put, List.getElem_toArray, List.getElem_cons_succ, List.getElem_cons_zero]
      simp only [List.setIfInBounds_toArray, List.set_cons_zero, List.set_cons_succ]
      refine wpAnyH_take (i := 6) (v := .int .i64 pa) rfl (by kernel_rfl) (by kernel_rfl) (by kernel_rfl) (fun _ _ _ h => h) (Or.inl ⟨by rfl, fun w2 ⟨q0, q1, q2, q3, q4, q5, q6⟩ => by go_simp⟩) (by assumption) ?_
      dsimp only [Act.put, List.getElem_toArray, List.getElem_cons_succ, List.getElem_cons_zero]
      simp only [List.setIfInBounds_toArray, List.set_cons_zero, List.set_cons_succ]
      refine wpAnyH_take (i := 7) (v := .pointer (some ⟨E, 2, .none⟩)) rfl (by kernel_rfl) (by kernel_rfl) (by kernel_rfl) (fun _ _ _ h => h) (Or.inl ⟨by rfl, fun w2 ⟨q0, q1, q2, q3, q4, q5, q6⟩ => by go_simp⟩) (by assumption) ?_
      dsimp only [Act.put, List.getElem_toArray, List.getElem_cons_succ, List.getElem_cons_zero]
      simp only [List.setIfInBounds_toArray, List.set_cons_zero, List.set_cons_succ]
      refine wpAnyH_take (i := 8) (v := .int .i64 e2) rfl (by kernel_rfl) (by kernel_rfl) (by kernel_rfl) (fun _ _ _ h => h) (Or.inl ⟨by rfl, fun w2 ⟨q0, q1, q2, q3, q4, q5, q6⟩ => by go_simp⟩) (by assumption) ?_
      dsimp only [Act.put, List.getElem_toArray, List.getElem_cons_succ, List.getElem_cons_zero]
      simp only [List.setIfInBounds_toArray, List.set_cons_zero, List.set_cons_succ]
      refine wpAnyH_take (i := 9) (v := .bool false) rfl (by kernel_rfl) (by kernel_rfl) (by kernel_rfl) (fun _ _ _ h => h) (Or.inl ⟨by rfl, fun w2 ⟨q0, q1, q2, q3, q4, q5, q6⟩ => by go_simp⟩) (by assumption) ?_
      dsimp only [Act.put, List.getElem_toArray, List.getElem_cons_succ, List.getElem_cons_zero]
      simp only [List.setIfInBounds_toArray, List.set_cons_zero, List.set_cons_succ]
      refine wpAnyH_take (i := 10) (v := .bool false) rfl (by kernel_rfl) (by kernel_rfl) (by kernel_rfl) (fun _ _ _ h => h) (Or.inl ⟨by rfl, fun w2 ⟨q0, q1, q2, q3, q4, q5, q6⟩ => by go_simp⟩) (by assumption) ?_
      dsimp only [Act.put, List.getElem_toArray, List.getElem_cons_succ, List.getElem_cons_zero]
      simp only [List.setIfInBounds_toArray, List.set_cons_zero, List.set_cons_succ]
      refine wpAnyH_take (i := 11) (v := .bool false) rfl (by kernel_rfl) (by kernel_rfl) (by kernel_rfl) (fun _ _ _ h => h) (Or.inl ⟨by rfl, fun w2 ⟨q0, q1, q2, q3, q4, q5, q6⟩ => by go_simp⟩) (by assumption) ?_
      dsimp only [Act.put, List.getElem_toArray, List.getElem_cons_succ, List.getElem_cons_zero]
      simp only [List.setIfInBounds_toArray, List.set_cons_zero, List.set_cons_succ]
      refine wpAnyH_take (i := 12) (v := undef) rfl (by kernel_rfl) (by kernel_rfl) (by kernel_rfl) (fun _ _ _ h => h) (Or.inr ⟨by rfl, rfl⟩) (by assumption) ?_
      dsimp only [Act.put, List.getElem_toArray, List.getElem_cons_succ, List.getElem_cons_zero]
      simp only [List.setIfInBounds_toArray, List.set_cons_zero, List.set_cons_succ]
      refine wpAnyH_take (i := 13) (v := undef) rfl (by kernel_rfl) (by kernel_rfl) (by kernel_rfl) (fun _ _ _ h => h) (Or.inr ⟨by rfl, rfl⟩) (by assumption) ?_
      dsimp only [Act.put, List.getElem_toArray, List.getElem_cons_succ, List.getElem_cons_zero]
      simp only [List.setIfInBounds_toArray, List.set_cons_zero, List.set_cons_succ]
      refine wpAnyH_take (i := 14) (v := undef) rfl (by kernel_rfl) (by kernel_rfl) (by kernel_rfl) (fun _ _ _ h => h) (Or.inr ⟨by rfl, rfl⟩) (by assumption) ?_
      dsimp only [Act.put, List.getElem_toArray, List.getElem_cons_succ, List.getElem_cons_zero]
      simp only [List.setIfInBounds_toArray, List.set_cons_zero, List.set_cons_succ]
      refine wpAnyH_take (i := 15) (v := .bool false) rfl (by kernel_rfl) (by kernel_rfl) (by kernel_rfl) (fun _ _ _ h => h) (Or.inl ⟨by rfl, fun w2 ⟨q0, q1, q2, q3, q4, q5, q6⟩ => by go_simp⟩) (by assumption) ?_
      dsimp only [Act.put, List.getElem_toArray, List.getElem_cons_succ, List.getElem_cons_zero]
      simp only [List.setIfInBounds_toArray, List.set_cons_zero, List.set_cons_succ]
      refine wpAnyH_take (i := 16) (v := .bool false) rfl (by kernel_rfl) (by kernel_rfl) (by kernel_rfl) (fun _ _ _ h => h) (Or.inl ⟨by rfl, fun w2 ⟨q0, q1, q2, q3, q4, q5, q6⟩ => by go_simp⟩) (by assumption) ?_
      dsimp only [Act.put, List.getElem_toArray, List.getElem_cons_succ, List.getElem_cons_zero]
      simp only [List.setIfInBounds_toArray, List.set_cons_zero, List.set_cons_succ]
      refine wpAnyH_take (i := 17) (v := undef) rfl (by kernel_rfl) (by kernel_rfl) (by kernel_rfl) (fun _ _ _ h => h) (Or.inr ⟨by rfl, rfl⟩) (by assumption) ?_
      dsimp only [Act.put, List.getElem_toArray, List.getElem_cons_succ, List.getElem_cons_zero]
      simp only [List.setIfInBounds_toArray, List.set_cons_zero, List.set_cons_succ]
      refine wpAnyH_take (i := 18) (v := undef) rfl (by kernel_rfl) (by kernel_rfl) (by kernel_rfl) (fun _ _ _ h => h) (Or.inr ⟨by rfl, rfl⟩) (by assumption) ?_
      dsimp only [Act.put, List.getElem_toArray, List.getElem_cons_succ, List.getElem_cons_zero]
      simp only [List.setIfInBounds_toArray, List.set_cons_zero, List.set_cons_succ]
      refine wpAnyH_take (i := 19) (v := undef) rfl (by kernel_rfl) (by kernel_rfl) (by kernel_rfl) (fun _ _ _ h => h) (Or.inr ⟨by rfl, rfl⟩) (by assumption) ?_
      dsimp only [Act.put, List.getElem_toArray, List.getElem_cons_succ, List.getElem_cons_zero]
      simp only [List.setIfInBounds_toArray, List.set_cons_zero, List.set_cons_succ]
      refine wpAnyH_take (i := 20) (v := undef) rfl (by kernel_rfl) (by kernel_rfl) (by kernel_rfl) (fun _ _ _ h => h) (Or.inr ⟨by rfl, rfl⟩) (by assumption) ?_
      dsimp only [Act.put, List.getElem_toArray, List.getElem_cons_succ, List.getElem_cons_zero]
      simp only [List.setIfInBounds_toArray, List.set_cons_zero, List.set_cons_succ]
      refine wpAnyH_take (i := 21) (v := .bool false) rfl (by kernel_rfl) (by kernel_rfl) (by kernel_rfl) (fun _ _ _ h => h) (Or.inl ⟨by rfl, fun w2 ⟨q0, q1, q2, q3, q4, q5, q6⟩ => by go_simp⟩) (by assumption) ?_
      dsimp only [Act.put, List.getElem_toArray, List.getElem_cons_succ, List.getElem_cons_zero]
      simp only [List.setIfInBounds_toArray, List.set_cons_zero, List.set_cons_succ]
      refine wpAnyH_ready (rs := [22]) (by kernel_rfl) (by simp) ?_
      refine AllReadyH.cons rfl (fun K hK => ?_) AllReadyH.nil
      rw [if_pos (by rfl)]
      go_simp
      refine hK.out _ _ (by go_keep) (fun hHeld => ?_)
      clear hK K
      refine wpAnyH_take (i := 23) (v := .bool false) rfl (by kernel_rfl) (by kernel_rfl) (by kernel_rfl) (fun _ _ _ h => h) (Or.inl ⟨by rfl, fun w2 ⟨q0, q1, q2, q3, q4, q5, q6⟩ => by go_simp⟩) (by assumption) ?_
      dsimp only [Act.put, List.getElem_toArray, List.getElem_cons_succ, List.getElem_cons_zero]
      simp only [List.setIfInBounds_toArray, List.set_cons_zero, List.set_cons_succ]
      refine wpAnyH_done (by kernel_rfl) ?_ _
      go_wp2
      exact bodyPost_ret (v := .tuple #[.agg #[.int .i64 e0, .int .i64 e1, .int .i64 e2], .bool false]) (by simp [results, Try.results79, go_sem, r0, r1, r2]) rfl ⟨⟨e0, e1, e2, false, rfl⟩, (((hB.setCell hR _).setCell hR _).setCell hR _).drew⟩
    have x2' : (pa == e2) = true := by rw [beq_iff_eq]; exact x2
    clear x2
    by_cases x3 : yk = 2
    case neg =>
      have x3' : (yk == 2) = false := by rw [beq_eq_false_iff_ne]; exact x3
      refine wp_region_held_drew (S := fun X => X.cell? ⟨E, 0, .none⟩ = some (.int .i64 e0) ∧ X.cell? ⟨E, 1, .none⟩ = some (.int .i64 e1) ∧ X.cell? ⟨E, 2, .none⟩ = some (.int .i64 e2) ∧ X.cell? ⟨P, 0, .none⟩ = some (.int .i64 2) ∧ X.cell? ⟨P, 1, .none⟩ = some (.int .i64 pa) ∧ X.cell? ⟨Y, 0, .none⟩ = some (.int .i64 yk) ∧ X.cell? ⟨Y, 1, .none⟩ = some (.int .i64 ya)) (by kernel_rfl) ⟨E0, E1, E2, P0, P1, Y0, Y1⟩ (fun hHeld => ?_)
      refine wpAnyH_take (i := 0) (v := .agg #[.int .i64 e0, .int .i64 e1, .int .i64 e2]) rfl (by kernel_rfl) (by kernel_rfl) (by kernel_rfl) (fun _ _ _ h => h) (Or.inl ⟨by rfl, fun w2 ⟨q0, q1, q2, q3, q4, q5, q6⟩ => by go_simp⟩) (by assumption) ?_
      dsimp only [Act.put, List.getElem_toArray, List.getElem_cons_succ, List.getElem_cons_zero]
      simp only [List.setIfInBounds_toArray, List.set_cons_zero, List.set_cons_succ]
      refine wpAnyH_take (i := 1) (v := .pointer (some ⟨P, 0, .none⟩)) rfl (by kernel_rfl) (by kernel_rfl) (by kernel_rfl) (fun _ _ _ h => h) (Or.inl ⟨by rfl, fun w2 ⟨q0, q1, q2, q3, q4, q5, q6⟩ => by go_simp⟩) (by assumption) ?_
      dsimp only [Act.put, List.getElem_toArray, List.getElem_cons_succ, List.getElem_cons_zero]
      simp only [List.setIfInBounds_toArray, List.set_cons_zero, List.set_cons_succ]
      refine wpAnyH_take (i := 2) (v := .int .i64 2) rfl (by kernel_rfl) (by kernel_rfl) (by kernel_rfl) (fun _ _ _ h => h) (Or.inl ⟨by rfl, fun w2 ⟨q0, q1, q2, q3, q4, q5, q6⟩ => by go_simp⟩) (by assumption) ?_
      dsimp only [Act.put, List.getElem_toArray, List.getElem_cons_succ, List.getElem_cons_zero]
      simp only [List.setIfInBounds_toArray, List.set_cons_zero, List.set_cons_succ]
      refine wpAnyH_take (i := 3) (v := .bool true) rfl (by kernel_rfl) (by kernel_rfl) (by kernel_rfl) (fun _ _ _ h => h) (Or.inl ⟨by rfl, fun w2 ⟨q0, q1, q2, q3, q4, q5, q6⟩ => by go_simp⟩) (by assumption) ?_
      dsimp only [Act.put, List.getElem_toArray, List.getElem_cons_succ, List.getElem_cons_zero]
      simp only [List.setIfInBounds_toArray, List.set_cons_zero, List.set_cons_succ]
      refine wpAnyH_take (i := 4) (v := .bool true) rfl (by kernel_rfl) (by kernel_rfl) (by kernel_rfl) (fun _ _ _ h => h) (Or.inl ⟨by rfl, fun w2 ⟨q0, q1, q2, q3, q4, q5, q6⟩ => by go_simp⟩) (by assumption) ?_
      dsimp only [Act.put, List.getElem_toArray, List.getElem_cons_succ, List.getElem_cons_zero]
      simp only [List.setIfInBounds_toArray, List.set_cons_zero, List.set_cons_succ]
      refine wpAnyH_take (i := 5) (v := .pointer (some ⟨P, 1, .none⟩)) rfl (by kernel_rfl) (by kernel_rfl) (by kernel_rfl) (fun _ _ _ h => h) (Or.inl ⟨by rfl, fun w2 ⟨q0, q1, q2, q3, q4, q5, q6⟩ => by go_simp⟩) (by assumption) ?_
      dsimp only [Act.put, List.getElem_toArray, List.getElem_cons_succ, List.getElem_cons_zero]
      simp only [List.setIfInBounds_toArray, List.set_cons_zero, List.set_cons_succ]
      refine wpAnyH_take (i := 6) (v := .int .i64 pa) rfl (by kernel_rfl) (by kernel_rfl) (by kernel_rfl) (fun _ _ _ h => h) (Or.inl ⟨by rfl, fun w2 ⟨q0, q1, q2, q3, q4, q5, q6⟩ => by go_simp⟩) (by assumption) ?_
      dsimp only [Act.put, List.getElem_toArray, List.getElem_cons_succ, List.getElem_cons_zero]
      simp only [List.setIfInBounds_toArray, List.set_cons_zero, List.set_cons_succ]
      refine wpAnyH_take (i := 7) (v := .pointer (some ⟨E, 2, .none⟩)) rfl (by kernel_rfl) (by kernel_rfl) (by kernel_rfl) (fun _ _ _ h => h) (Or.inl ⟨by rfl, fun w2 ⟨q0, q1, q2, q3, q4, q5, q6⟩ => by go_simp⟩) (by assumption) ?_
      dsimp only [Act.put, List.getElem_toArray, List.getElem_cons_succ, List.getElem_cons_zero]
      simp only [List.setIfInBounds_toArray, List.set_cons_zero, List.set_cons_succ]
      refine wpAnyH_take (i := 8) (v := .int .i64 e2) rfl (by kernel_rfl) (by kernel_rfl) (by kernel_rfl) (fun _ _ _ h => h) (Or.inl ⟨by rfl, fun w2 ⟨q0, q1, q2, q3, q4, q5, q6⟩ => by go_simp⟩) (by assumption) ?_
      dsimp only [Act.put, List.getElem_toArray, List.getElem_cons_succ, List.getElem_cons_zero]
      simp only [List.setIfInBounds_toArray, List.set_cons_zero, List.set_cons_succ]
      refine wpAnyH_take (i := 9) (v := .bool true) rfl (by kernel_rfl) (by kernel_rfl) (by kernel_rfl) (fun _ _ _ h => h) (Or.inl ⟨by rfl, fun w2 ⟨q0, q1, q2, q3, q4, q5, q6⟩ => by go_simp⟩) (by assumption) ?_
      dsimp only [Act.put, List.getElem_toArray, List.getElem_cons_succ, List.getElem_cons_zero]
      simp only [List.setIfInBounds_toArray, List.set_cons_zero, List.set_cons_succ]
      refine wpAnyH_take (i := 10) (v := .bool true) rfl (by kernel_rfl) (by kernel_rfl) (by kernel_rfl) (fun _ _ _ h => h) (Or.inl ⟨by rfl, fun w2 ⟨q0, q1, q2, q3, q4, q5, q6⟩ => by go_simp⟩) (by assumption) ?_
      dsimp only [Act.put, List.getElem_toArray, List.getElem_cons_succ, List.getElem_cons_zero]
      simp only [List.setIfInBounds_toArray, List.set_cons_zero, List.set_cons_succ]
      refine wpAnyH_take (i := 11) (v := .bool true) rfl (by kernel_rfl) (by kernel_rfl) (by kernel_rfl) (fun _ _ _ h => h) (Or.inl ⟨by rfl, fun w2 ⟨q0, q1, q2, q3, q4, q5, q6⟩ => by go_simp⟩) (by assumption) ?_
      dsimp only [Act.put, List.getElem_toArray, List.getElem_cons_succ, List.getElem_cons_zero]
      simp only [List.setIfInBounds_toArray, List.set_cons_zero, List.set_cons_succ]
      refine wpAnyH_take (i := 12) (v := .pointer (some ⟨Y, 0, .none⟩)) rfl (by kernel_rfl) (by kernel_rfl) (by kernel_rfl) (fun _ _ _ h => h) (Or.inl ⟨by rfl, fun w2 ⟨q0, q1, q2, q3, q4, q5, q6⟩ => by go_simp⟩) (by assumption) ?_
      dsimp only [Act.put, List.getElem_toArray, List.getElem_cons_succ, List.getElem_cons_zero]
      simp only [List.setIfInBounds_toArray, List.set_cons_zero, List.set_cons_succ]
      refine wpAnyH_take (i := 13) (v := .int .i64 yk) rfl (by kernel_rfl) (by kernel_rfl) (by kernel_rfl) (fun _ _ _ h => h) (Or.inl ⟨by rfl, fun w2 ⟨q0, q1, q2, q3, q4, q5, q6⟩ => by go_simp⟩) (by assumption) ?_
      dsimp only [Act.put, List.getElem_toArray, List.getElem_cons_succ, List.getElem_cons_zero]
      simp only [List.setIfInBounds_toArray, List.set_cons_zero, List.set_cons_succ]
      refine wpAnyH_take (i := 14) (v := .bool false) rfl (by kernel_rfl) (by kernel_rfl) (by kernel_rfl) (fun _ _ _ h => h) (Or.inl ⟨by rfl, fun w2 ⟨q0, q1, q2, q3, q4, q5, q6⟩ => by go_simp⟩) (by assumption) ?_
      dsimp only [Act.put, List.getElem_toArray, List.getElem_cons_succ, List.getElem_cons_zero]
      simp only [List.setIfInBounds_toArray, List.set_cons_zero, List.set_cons_succ]
      refine wpAnyH_take (i := 15) (v := .bool false) rfl (by kernel_rfl) (by kernel_rfl) (by kernel_rfl) (fun _ _ _ h => h) (Or.inl ⟨by rfl, fun w2 ⟨q0, q1, q2, q3, q4, q5, q6⟩ => by go_simp⟩) (by assumption) ?_
      dsimp only [Act.put, List.getElem_toArray, List.getElem_cons_succ, List.getElem_cons_zero]
      simp only [List.setIfInBounds_toArray, List.set_cons_zero, List.set_cons_succ]
      refine wpAnyH_take (i := 16) (v := .bool false) rfl (by kernel_rfl) (by kernel_rfl) (by kernel_rfl) (fun _ _ _ h => h) (Or.inl ⟨by rfl, fun w2 ⟨q0, q1, q2, q3, q4, q5, q6⟩ => by go_simp⟩) (by assumption) ?_
      dsimp only [Act.put, List.getElem_toArray, List.getElem_cons_succ, List.getElem_cons_zero]
      simp only [List.setIfInBounds_toArray, List.set_cons_zero, List.set_cons_succ]
      refine wpAnyH_take (i := 17) (v := undef) rfl (by kernel_rfl) (by kernel_rfl) (by kernel_rfl) (fun _ _ _ h => h) (Or.inr ⟨by rfl, rfl⟩) (by assumption) ?_
      dsimp only [Act.put, List.getElem_toArray, List.getElem_cons_succ, List.getElem_cons_zero]
      simp only [List.setIfInBounds_toArray, List.set_cons_zero, List.set_cons_succ]
      refine wpAnyH_take (i := 18) (v := undef) rfl (by kernel_rfl) (by kernel_rfl) (by kernel_rfl) (fun _ _ _ h => h) (Or.inr ⟨by rfl, rfl⟩) (by assumption) ?_
      dsimp only [Act.put, List.getElem_toArray, List.getElem_cons_succ, List.getElem_cons_zero]
      simp only [List.setIfInBounds_toArray, List.set_cons_zero, List.set_cons_succ]
      refine wpAnyH_take (i := 19) (v := undef) rfl (by kernel_rfl) (by kernel_rfl) (by kernel_rfl) (fun _ _ _ h => h) (Or.inr ⟨by rfl, rfl⟩) (by assumption) ?_
      dsimp only [Act.put, List.getElem_toArray, List.getElem_cons_succ, List.getElem_cons_zero]
      simp only [List.setIfInBounds_toArray, List.set_cons_zero, List.set_cons_succ]
      refine wpAnyH_take (i := 20) (v := undef) rfl (by kernel_rfl) (by kernel_rfl) (by kernel_rfl) (fun _ _ _ h => h) (Or.inr ⟨by rfl, rfl⟩) (by assumption) ?_
      dsimp only [Act.put, List.getElem_toArray, List.getElem_cons_succ, List.getElem_cons_zero]
      simp only [List.setIfInBounds_toArray, List.set_cons_zero, List.set_cons_succ]
      refine wpAnyH_take (i := 21) (v := .bool false) rfl (by kernel_rfl) (by kernel_rfl) (by kernel_rfl) (fun _ _ _ h => h) (Or.inl ⟨by rfl, fun w2 ⟨q0, q1, q2, q3, q4, q5, q6⟩ => by go_simp⟩) (by assumption) ?_
      dsimp only [Act.put, List.getElem_toArray, List.getElem_cons_succ, List.getElem_cons_zero]
      simp only [List.setIfInBounds_toArray, List.set_cons_zero, List.set_cons_succ]
      refine wpAnyH_ready (rs := [22]) (by kernel_rfl) (by simp) ?_
      refine AllReadyH.cons rfl (fun K hK => ?_) AllReadyH.nil
      rw [if_pos (by rfl)]
      go_simp
      refine hK.out _ _ (by go_keep) (fun hHeld => ?_)
      clear hK K
      refine wpAnyH_take (i := 23) (v := .bool false) rfl (by kernel_rfl) (by kernel_rfl) (by kernel_rfl) (fun _ _ _ h => h) (Or.inl ⟨by rfl, fun w2 ⟨q0, q1, q2, q3, q4, q5, q6⟩ => by go_simp⟩) (by assumption) ?_
      dsimp only [Act.put, List.getElem_toArray, List.getElem_cons_succ, List.getElem_cons_zero]
      simp only [List.setIfInBounds_toArray, List.set_cons_zero, List.set_cons_succ]
      refine wpAnyH_done (by kernel_rfl) ?_ _
      go_wp2
      exact bodyPost_ret (v := .tuple #[.agg #[.int .i64 e0, .int .i64 e1, .int .i64 e2], .bool false]) (by simp [results, Try.results79, go_sem, r0, r1, r2]) rfl ⟨⟨e0, e1, e2, false, rfl⟩, (((hB.setCell hR _).setCell hR _).setCell hR _).drew⟩
    subst x3
    · skip
      refine wp_region_held_drew (S := fun X => X.cell? ⟨E, 0, .none⟩ = some (.int .i64 e0) ∧ X.cell? ⟨E, 1, .none⟩ = some (.int .i64 e1) ∧ X.cell? ⟨E, 2, .none⟩ = some (.int .i64 e2) ∧ X.cell? ⟨P, 0, .none⟩ = some (.int .i64 2) ∧ X.cell? ⟨P, 1, .none⟩ = some (.int .i64 pa) ∧ X.cell? ⟨Y, 0, .none⟩ = some (.int .i64 2) ∧ X.cell? ⟨Y, 1, .none⟩ = some (.int .i64 ya)) (by kernel_rfl) ⟨E0, E1, E2, P0, P1, Y0, Y1⟩ (fun hHeld => ?_)
      refine wpAnyH_take (i := 0) (v := .agg #[.int .i64 e0, .int .i64 e1, .int .i64 e2]) rfl (by kernel_rfl) (by kernel_rfl) (by kernel_rfl) (fun _ _ _ h => h) (Or.inl ⟨by rfl, fun w2 ⟨q0, q1, q2, q3, q4, q5, q6⟩ => by go_simp⟩) (by assumption) ?_
      dsimp only [Act.put, List.getElem_toArray, List.getElem_cons_succ, List.getElem_cons_zero]
      simp only [List.setIfInBounds_toArray, List.set_cons_zero, List.set_cons_succ]
      refine wpAnyH_take (i := 1) (v := .pointer (some ⟨P, 0, .none⟩)) rfl (by kernel_rfl) (by kernel_rfl) (by kernel_rfl) (fun _ _ _ h => h) (Or.inl ⟨by rfl, fun w2 ⟨q0, q1, q2, q3, q4, q5, q6⟩ => by go_simp⟩) (by assumption) ?_
      dsimp only [Act.put, List.getElem_toArray, List.getElem_cons_succ, List.getElem_cons_zero]
      simp only [List.setIfInBounds_toArray, List.set_cons_zero, List.set_cons_succ]
      refine wpAnyH_take (i := 2) (v := .int .i64 2) rfl (by kernel_rfl) (by kernel_rfl) (by kernel_rfl) (fun _ _ _ h => h) (Or.inl ⟨by rfl, fun w2 ⟨q0, q1, q2, q3, q4, q5, q6⟩ => by go_simp⟩) (by assumption) ?_
      dsimp only [Act.put, List.getElem_toArray, List.getElem_cons_succ, List.getElem_cons_zero]
      simp only [List.setIfInBounds_toArray, List.set_cons_zero, List.set_cons_succ]
      refine wpAnyH_take (i := 3) (v := .bool true) rfl (by kernel_rfl) (by kernel_rfl) (by kernel_rfl) (fun _ _ _ h => h) (Or.inl ⟨by rfl, fun w2 ⟨q0, q1, q2, q3, q4, q5, q6⟩ => by go_simp⟩) (by assumption) ?_
      dsimp only [Act.put, List.getElem_toArray, List.getElem_cons_succ, List.getElem_cons_zero]
      simp only [List.setIfInBounds_toArray, List.set_cons_zero, List.set_cons_succ]
      refine wpAnyH_take (i := 4) (v := .bool true) rfl (by kernel_rfl) (by kernel_rfl) (by kernel_rfl) (fun _ _ _ h => h) (Or.inl ⟨by rfl, fun w2 ⟨q0, q1, q2, q3, q4, q5, q6⟩ => by go_simp⟩) (by assumption) ?_
      dsimp only [Act.put, List.getElem_toArray, List.getElem_cons_succ, List.getElem_cons_zero]
      simp only [List.setIfInBounds_toArray, List.set_cons_zero, List.set_cons_succ]
      refine wpAnyH_take (i := 5) (v := .pointer (some ⟨P, 1, .none⟩)) rfl (by kernel_rfl) (by kernel_rfl) (by kernel_rfl) (fun _ _ _ h => h) (Or.inl ⟨by rfl, fun w2 ⟨q0, q1, q2, q3, q4, q5, q6⟩ => by go_simp⟩) (by assumption) ?_
      dsimp only [Act.put, List.getElem_toArray, List.getElem_cons_succ, List.getElem_cons_zero]
      simp only [List.setIfInBounds_toArray, List.set_cons_zero, List.set_cons_succ]
      refine wpAnyH_take (i := 6) (v := .int .i64 pa) rfl (by kernel_rfl) (by kernel_rfl) (by kernel_rfl) (fun _ _ _ h => h) (Or.inl ⟨by rfl, fun w2 ⟨q0, q1, q2, q3, q4, q5, q6⟩ => by go_simp⟩) (by assumption) ?_
      dsimp only [Act.put, List.getElem_toArray, List.getElem_cons_succ, List.getElem_cons_zero]
      simp only [List.setIfInBounds_toArray, List.set_cons_zero, List.set_cons_succ]
      refine wpAnyH_take (i := 7) (v := .pointer (some ⟨E, 2, .none⟩)) rfl (by kernel_rfl) (by kernel_rfl) (by kernel_rfl) (fun _ _ _ h => h) (Or.inl ⟨by rfl, fun w2 ⟨q0, q1, q2, q3, q4, q5, q6⟩ => by go_simp⟩) (by assumption) ?_
      dsimp only [Act.put, List.getElem_toArray, List.getElem_cons_succ, List.getElem_cons_zero]
      simp only [List.setIfInBounds_toArray, List.set_cons_zero, List.set_cons_succ]
      refine wpAnyH_take (i := 8) (v := .int .i64 e2) rfl (by kernel_rfl) (by kernel_rfl) (by kernel_rfl) (fun _ _ _ h => h) (Or.inl ⟨by rfl, fun w2 ⟨q0, q1, q2, q3, q4, q5, q6⟩ => by go_simp⟩) (by assumption) ?_
      dsimp only [Act.put, List.getElem_toArray, List.getElem_cons_succ, List.getElem_cons_zero]
      simp only [List.setIfInBounds_toArray, List.set_cons_zero, List.set_cons_succ]
      refine wpAnyH_take (i := 9) (v := .bool true) rfl (by kernel_rfl) (by kernel_rfl) (by kernel_rfl) (fun _ _ _ h => h) (Or.inl ⟨by rfl, fun w2 ⟨q0, q1, q2, q3, q4, q5, q6⟩ => by go_simp⟩) (by assumption) ?_
      dsimp only [Act.put, List.getElem_toArray, List.getElem_cons_succ, List.getElem_cons_zero]
      simp only [List.setIfInBounds_toArray, List.set_cons_zero, List.set_cons_succ]
      refine wpAnyH_take (i := 10) (v := .bool true) rfl (by kernel_rfl) (by kernel_rfl) (by kernel_rfl) (fun _ _ _ h => h) (Or.inl ⟨by rfl, fun w2 ⟨q0, q1, q2, q3, q4, q5, q6⟩ => by go_simp⟩) (by assumption) ?_
      dsimp only [Act.put, List.getElem_toArray, List.getElem_cons_succ, List.getElem_cons_zero]
      simp only [List.setIfInBounds_toArray, List.set_cons_zero, List.set_cons_succ]
      refine wpAnyH_take (i := 11) (v := .bool true) rfl (by kernel_rfl) (by kernel_rfl) (by kernel_rfl) (fun _ _ _ h => h) (Or.inl ⟨by rfl, fun w2 ⟨q0, q1, q2, q3, q4, q5, q6⟩ => by go_simp⟩) (by assumption) ?_
      dsimp only [Act.put, List.getElem_toArray, List.getElem_cons_succ, List.getElem_cons_zero]
      simp only [List.setIfInBounds_toArray, List.set_cons_zero, List.set_cons_succ]
      refine wpAnyH_take (i := 12) (v := .pointer (some ⟨Y, 0, .none⟩)) rfl (by kernel_rfl) (by kernel_rfl) (by kernel_rfl) (fun _ _ _ h => h) (Or.inl ⟨by rfl, fun w2 ⟨q0, q1, q2, q3, q4, q5, q6⟩ => by go_simp⟩) (by assumption) ?_
      dsimp only [Act.put, List.getElem_toArray, List.getElem_cons_succ, List.getElem_cons_zero]
      simp only [List.setIfInBounds_toArray, List.set_cons_zero, List.set_cons_succ]
      refine wpAnyH_take (i := 13) (v := .int .i64 2) rfl (by kernel_rfl) (by kernel_rfl) (by kernel_rfl) (fun _ _ _ h => h) (Or.inl ⟨by rfl, fun w2 ⟨q0, q1, q2, q3, q4, q5, q6⟩ => by go_simp⟩) (by assumption) ?_
      dsimp only [Act.put, List.getElem_toArray, List.getElem_cons_succ, List.getElem_cons_zero]
      simp only [List.setIfInBounds_toArray, List.set_cons_zero, List.set_cons_succ]
      refine wpAnyH_take (i := 14) (v := .bool true) rfl (by kernel_rfl) (by kernel_rfl) (by kernel_rfl) (fun _ _ _ h => h) (Or.inl ⟨by rfl, fun w2 ⟨q0, q1, q2, q3, q4, q5, q6⟩ => by go_simp⟩) (by assumption) ?_
      dsimp only [Act.put, List.getElem_toArray, List.getElem_cons_succ, List.getElem_cons_zero]
      simp only [List.setIfInBounds_toArray, List.set_cons_zero, List.set_cons_succ]
      refine wpAnyH_take (i := 15) (v := .bool true) rfl (by kernel_rfl) (by kernel_rfl) (by kernel_rfl) (fun _ _ _ h => h) (Or.inl ⟨by rfl, fun w2 ⟨q0, q1, q2, q3, q4, q5, q6⟩ => by go_simp⟩) (by assumption) ?_
      dsimp only [Act.put, List.getElem_toArray, List.getElem_cons_succ, List.getElem_cons_zero]
      simp only [List.setIfInBounds_toArray, List.set_cons_zero, List.set_cons_succ]
      refine wpAnyH_take (i := 16) (v := .bool true) rfl (by kernel_rfl) (by kernel_rfl) (by kernel_rfl) (fun _ _ _ h => h) (Or.inl ⟨by rfl, fun w2 ⟨q0, q1, q2, q3, q4, q5, q6⟩ => by go_simp⟩) (by assumption) ?_
      dsimp only [Act.put, List.getElem_toArray, List.getElem_cons_succ, List.getElem_cons_zero]
      simp only [List.setIfInBounds_toArray, List.set_cons_zero, List.set_cons_succ]
      refine wpAnyH_take (i := 17) (v := .pointer (some ⟨Y, 1, .none⟩)) rfl (by kernel_rfl) (by kernel_rfl) (by kernel_rfl) (fun _ _ _ h => h) (Or.inl ⟨by rfl, fun w2 ⟨q0, q1, q2, q3, q4, q5, q6⟩ => by go_simp⟩) (by assumption) ?_
      dsimp only [Act.put, List.getElem_toArray, List.getElem_cons_succ, List.getElem_cons_zero]
      simp only [List.setIfInBounds_toArray, List.set_cons_zero, List.set_cons_succ]
      refine wpAnyH_take (i := 18) (v := .int .i64 ya) rfl (by kernel_rfl) (by kernel_rfl) (by kernel_rfl) (fun _ _ _ h => h) (Or.inl ⟨by rfl, fun w2 ⟨q0, q1, q2, q3, q4, q5, q6⟩ => by go_simp⟩) (by assumption) ?_
      dsimp only [Act.put, List.getElem_toArray, List.getElem_cons_succ, List.getElem_cons_zero]
      simp only [List.setIfInBounds_toArray, List.set_cons_zero, List.set_cons_succ]
      refine wpAnyH_take (i := 19) (v := .int .i64 c) rfl (by kernel_rfl) (by kernel_rfl) (by kernel_rfl) (fun _ _ _ h => h) (Or.inl ⟨by rfl, fun w2 ⟨q0, q1, q2, q3, q4, q5, q6⟩ => by go_simp⟩) (by assumption) ?_
      dsimp only [Act.put, List.getElem_toArray, List.getElem_cons_succ, List.getElem_cons_zero]
      simp only [List.setIfInBounds_toArray, List.set_cons_zero, List.set_cons_succ]
      refine wpAnyH_take (i := 20) (v := .bool (ya == c)) rfl (by kernel_rfl) (by kernel_rfl) (by kernel_rfl) (fun _ _ _ h => h) (Or.inl ⟨by rfl, fun w2 ⟨q0, q1, q2, q3, q4, q5, q6⟩ => by go_simp⟩) (by assumption) ?_
      dsimp only [Act.put, List.getElem_toArray, List.getElem_cons_succ, List.getElem_cons_zero]
      simp only [List.setIfInBounds_toArray, List.set_cons_zero, List.set_cons_succ]
      refine wpAnyH_take (i := 21) (v := .bool (ya == c)) rfl (by kernel_rfl) (by kernel_rfl) (by kernel_rfl) (fun _ _ _ h => h) (Or.inl ⟨by rfl, fun w2 ⟨q0, q1, q2, q3, q4, q5, q6⟩ => by go_simp⟩) (by assumption) ?_
      dsimp only [Act.put, List.getElem_toArray, List.getElem_cons_succ, List.getElem_cons_zero]
      simp only [List.setIfInBounds_toArray, List.set_cons_zero, List.set_cons_succ]
      refine wpAnyH_ready (rs := [22]) (by kernel_rfl) (by simp) ?_
      refine AllReadyH.cons rfl (fun K hK => ?_) AllReadyH.nil
      rw [if_pos (by rfl)]
      go_simp
      refine hK.out _ _ (by go_keep) (fun hHeld => ?_)
      clear hK K
      refine wpAnyH_take (i := 23) (v := .bool (ya == c)) rfl (by kernel_rfl) (by kernel_rfl) (by kernel_rfl) (fun _ _ _ h => h) (Or.inl ⟨by rfl, fun w2 ⟨q0, q1, q2, q3, q4, q5, q6⟩ => by go_simp⟩) (by assumption) ?_
      dsimp only [Act.put, List.getElem_toArray, List.getElem_cons_succ, List.getElem_cons_zero]
      simp only [List.setIfInBounds_toArray, List.set_cons_zero, List.set_cons_succ]
      refine wpAnyH_done (by kernel_rfl) ?_ _
      go_wp2
      exact bodyPost_ret (v := .tuple #[.agg #[.int .i64 e0, .int .i64 e1, .int .i64 e2], .bool (ya == c)]) (by simp [results, Try.results79, go_sem, r0, r1, r2]) rfl ⟨⟨e0, e1, e2, (ya == c), rfl⟩, (((hB.setCell hR _).setCell hR _).setCell hR _).drew⟩
end Go.Proofs.Ytfknaheijidhcaa

/- The walks of package audit: a heap's book, its pages and slots. -/
import Derived.Test.YtfknaheijidhcaaAudP

import Derived.Test.YtfknaheijidhcaaRwO

import Derived.Test.YtfknaheijidhcaaQTail

namespace Go.Proofs.Ytfknaheijidhcaa

open Go.RowKit

abbrev shV (h : Hp) : Value := .agg #[.int .i64 h.p, .int .i64 h.c, .int .i64 h.m]
abbrev bookV (h : Hp) (v : Value) : Value := .agg #[.int .i64 h.p, .int .i64 h.c, .int .i64 h.m, v]

set_option maxHeartbeats 8000000 in
theorem open_any (h : Hp) (v : Value) (w : World) (hr : RdZ .u64 w v h.xs) :
    Calls Try.prog 36 #[shV h, v] w fun e w' => e = .returned (.tuple #[bookV h v, .bool h.ok]) ∧ Below w.heap.size w w' := by
  obtain ⟨ao, cap, rfl, hcap, hcm, hrow⟩ := hr.cells
  clear hrow hr
  have hok : h.ok = (mayB h.p h.c h.m && decide (totalV h.p h.c h.m ≤ (h.xs.length : Int))) := rfl
  have hm0 := may_any h.p h.c h.m
  have ht0 := words_any h.p h.c h.m
  generalize h.xs.length = n at *
  generalize totalV h.p h.c h.m = T at *
  generalize mayB h.p h.c h.m = mb at *
  replace hm0 := Lib.hid hm0
  replace ht0 := Lib.hid ht0
  rcases Bool.eq_false_or_eq_true mb with hmb | hmb
  case inr =>
    subst hmb
    rw [hok]
    clear hok
    go_enter Try.func36, Try.ntmps36
    go_upto_region 1 with fail
    obtain ⟨bS, bR, hsz, hbW⟩ := two_blocks w (.cells #[.int .i64 h.p, .int .i64 h.c, .int .i64 h.m] 23) (.cells #[.int .i64 0, .int .i64 0, .int .i64 0, .slice none 0 0] 72)
    generalize (w.alloc (.cells #[.int .i64 h.p, .int .i64 h.c, .int .i64 h.m] 23)).alloc (.cells #[.int .i64 0, .int .i64 0, .int .i64 0, .slice none 0 0] 72) = W at *
    obtain ⟨H, hH, hH'⟩ : ∃ H, Hid (H = w.heap.size) ∧ H = w.heap.size := ⟨_, Lib.hid rfl, rfl⟩
    rw [← hH'] at bS bR hsz hbW ⊢
    clear hH'
    have c0 := rowCells bS 0
    have c1 := rowCells bS 1
    have c2 := rowCells bS 2
    have r0 := rowCells bR 0
    have r1 := rowCells bR 1
    have r2 := rowCells bR 2
    have r3 := rowCells bR 3
    have f0 := rowFree bR 0
    have f1 := rowFree bR 1
    have f2 := rowFree bR 2
    have f3 := rowFree bR 3
    have l0 : H < W.heap.size := by omega
    have l1 : H + 1 < W.heap.size := by omega
    refine wp_region_held_drew (S := fun X => X.cell? ⟨H, 0, .none⟩ = some (.int .i64 h.p) ∧ X.cell? ⟨H, 1, .none⟩ = some (.int .i64 h.c) ∧ X.cell? ⟨H, 2, .none⟩ = some (.int .i64 h.m)) (by kernel_rfl) ⟨c0, c1, c2⟩ (fun hHeld => ?_)
    refine wpAnyH_take (i := 0) (v := .agg #[.int .i64 h.p, .int .i64 h.c, .int .i64 h.m]) rfl (by kernel_rfl) (by kernel_rfl) (by kernel_rfl) (fun _ _ _ h => h) (Or.inl ⟨by rfl, fun w2 ⟨q0, q1, q2⟩ => by go_simp⟩) (by assumption) ?_
    dsimp only [Act.put, List.getElem_toArray, List.getElem_cons_succ, List.getElem_cons_zero]
    simp only [List.setIfInBounds_toArray, List.set_cons_zero, List.set_cons_succ]
    refine wpAnyH_take (i := 1) (v := .slice ao n cap) rfl (by kernel_rfl) (by kernel_rfl) (by kernel_rfl) (fun _ _ _ h => h) (Or.inl ⟨by rfl, fun w2 ⟨q0, q1, q2⟩ => by go_simp⟩) (by assumption) ?_
    dsimp only [Act.put, List.getElem_toArray, List.getElem_cons_succ, List.getElem_cons_zero]
    simp only [List.setIfInBounds_toArray, List.set_cons_zero, List.set_cons_succ]
    refine wpAnyH_take (i := 2) (v := .agg #[.int .i64 h.p, .int .i64 h.c, .int .i64 h.m, .slice ao n cap]) rfl (by kernel_rfl) (by kernel_rfl) (by kernel_rfl) (fun _ _ _ h => h) (Or.inl ⟨by rfl, fun w2 ⟨q0, q1, q2⟩ => by go_simp⟩) (by assumption) ?_
    dsimp only [Act.put, List.getElem_toArray, List.getElem_cons_succ, List.getElem_cons_zero]
    simp only [List.setIfInBounds_toArray, List.set_cons_zero, List.set_cons_succ]
    refine wpAnyH_take (i := 3) (v := .agg #[.int .i64 h.p, .int .i64 h.c, .int .i64 h.m]) rfl (by kernel_rfl) (by kernel_rfl) (by kernel_rfl) (fun _ _ _ h => h) (Or.inl ⟨by rfl, fun w2 ⟨q0, q1, q2⟩ => by go_simp⟩) (by assumption) ?_
    dsimp only [Act.put, List.getElem_toArray, List.getElem_cons_succ, List.getElem_cons_zero]
    simp only [List.setIfInBounds_toArray, List.set_cons_zero, List.set_cons_succ]
    refine wpAnyH_ready (rs := [4]) (by kernel_rfl) (by simp) ?_
    refine AllReadyH.cons rfl (fun K hK => ?_) AllReadyH.nil
    rw [if_pos (by rfl)]
    go_simp
    refine (hm0.out _).mono ?_
    rintro e w1 ⟨rfl, rfl⟩
    dsimp only
    have hBa : Below W.heap.size W (W.drew.alloc (.cells #[.int .i64 h.p, .int .i64 h.c, .int .i64 h.m] 23)) := ((Below.refl _ _).drew).alloc (Nat.le_refl _) _
    have hBw := hbW.trans (hBa.mono (by omega))
    have c0' := keepF hBa _ _ _ c0
    have c1' := keepF hBa _ _ _ c1
    have c2' := keepF hBa _ _ _ c2
    have r0' := keepF hBa _ _ _ r0
    have r1' := keepF hBa _ _ _ r1
    have r2' := keepF hBa _ _ _ r2
    have r3' := keepF hBa _ _ _ r3
    have fR' := fun o => (bfree hBa (H + 1) o l1).trans (rowFree bR o)
    generalize W.drew.alloc (.cells #[.int .i64 h.p, .int .i64 h.c, .int .i64 h.m] 23) = W2 at *
    refine hK.out _ _ ⟨c0', c1', c2'⟩ (fun hHeld => ?_)
    clear hK K
    refine wpAnyH_take (i := 5) (v := .bool false) rfl (by kernel_rfl) (by kernel_rfl) (by kernel_rfl) (fun _ _ _ h => h) (Or.inl ⟨by rfl, fun w2 ⟨q0, q1, q2⟩ => by go_simp⟩) (by assumption) ?_
    dsimp only [Act.put, List.getElem_toArray, List.getElem_cons_succ, List.getElem_cons_zero]
    simp only [List.setIfInBounds_toArray, List.set_cons_zero, List.set_cons_succ]
    refine wpAnyH_take (i := 6) (v := undef) rfl (by kernel_rfl) (by kernel_rfl) (by kernel_rfl) (fun _ _ _ h => h) (Or.inr ⟨by rfl, rfl⟩) (by assumption) ?_
    dsimp only [Act.put, List.getElem_toArray, List.getElem_cons_succ, List.getElem_cons_zero]
    simp only [List.setIfInBounds_toArray, List.set_cons_zero, List.set_cons_succ]
    refine wpAnyH_take (i := 7) (v := undef) rfl (by kernel_rfl) (by kernel_rfl) (by kernel_rfl) (fun _ _ _ h => h) (Or.inr ⟨by rfl, rfl⟩) (by assumption) ?_
    dsimp only [Act.put, List.getElem_toArray, List.getElem_cons_succ, List.getElem_cons_zero]
    simp only [List.setIfInBounds_toArray, List.set_cons_zero, List.set_cons_succ]
    refine wpAnyH_take (i := 8) (v := undef) rfl (by kernel_rfl) (by kernel_rfl) (by kernel_rfl) (fun _ _ _ h => h) (Or.inr ⟨by rfl, rfl⟩) (by assumption) ?_
    dsimp only [Act.put, List.getElem_toArray, List.getElem_cons_succ, List.getElem_cons_zero]
    simp only [List.setIfInBounds_toArray, List.set_cons_zero, List.set_cons_succ]
    refine wpAnyH_take (i := 9) (v := undef) rfl (by kernel_rfl) (by kernel_rfl) (by kernel_rfl) (fun _ _ _ h => h) (Or.inr ⟨by rfl, rfl⟩) (by assumption) ?_
    dsimp only [Act.put, List.getElem_toArray, List.getElem_cons_succ, List.getElem_cons_zero]
    simp only [List.setIfInBounds_toArray, List.set_cons_zero, List.set_cons_succ]
    refine wpAnyH_take (i := 10) (v := undef) rfl (by kernel_rfl) (by kernel_rfl) (by kernel_rfl) (fun _ _ _ h => h) (Or.inr ⟨by rfl, rfl⟩) (by assumption) ?_
    dsimp only [Act.put, List.getElem_toArray, List.getElem_cons_succ, List.getElem_cons_zero]
    simp only [List.setIfInBounds_toArray, List.set_cons_zero, List.set_cons_succ]
    refine wpAnyH_take (i := 11) (v := .bool false) rfl (by kernel_rfl) (by kernel_rfl) (by kernel_rfl) (fun _ _ _ h => h) (Or.inl ⟨by rfl, fun w2 ⟨q0, q1, q2⟩ => by go_simp⟩) (by assumption) ?_
    dsimp only [Act.put, List.getElem_toArray, List.getElem_cons_succ, List.getElem_cons_zero]
    simp only [List.setIfInBounds_toArray, List.set_cons_zero, List.set_cons_succ]
    refine wpAnyH_ready (rs := [12]) (by kernel_rfl) (by simp) ?_
    refine AllReadyH.cons rfl (fun K hK => ?_) AllReadyH.nil
    rw [if_pos (by rfl)]
    go_simp
    refine hK.out _ _ (by go_keep) (fun hHeld => ?_)
    clear hK K
    refine wpAnyH_take (i := 13) (v := .bool false) rfl (by kernel_rfl) (by kernel_rfl) (by kernel_rfl) (fun _ _ _ h => h) (Or.inl ⟨by rfl, fun w2 ⟨q0, q1, q2⟩ => by go_simp⟩) (by assumption) ?_
    dsimp only [Act.put, List.getElem_toArray, List.getElem_cons_succ, List.getElem_cons_zero]
    simp only [List.setIfInBounds_toArray, List.set_cons_zero, List.set_cons_succ]
    refine wpAnyH_done (by kernel_rfl) ?_ _
    go_wp2
    exact bodyPost_ret (v := .tuple #[.agg #[.int .i64 h.p, .int .i64 h.c, .int .i64 h.m, .slice ao n cap], .bool false]) (by simp [results, Try.results36, go_sem, r0', r1', r2', r3']) rfl ⟨rfl, by rw [← hH.out]; exact ((((hBw.setCell (by simp) _).setCell (by simp) _).setCell (by simp) _).setCell (by simp) _)⟩
  case inl =>
    subst hmb
    rcases Bool.eq_false_or_eq_true (decide (T ≤ (n : Int))) with hd | hd
    · rw [hok]
      clear hok
      go_enter Try.func36, Try.ntmps36
      go_upto_region 1 with fail
      obtain ⟨bS, bR, hsz, hbW⟩ := two_blocks w (.cells #[.int .i64 h.p, .int .i64 h.c, .int .i64 h.m] 23) (.cells #[.int .i64 0, .int .i64 0, .int .i64 0, .slice none 0 0] 72)
      generalize (w.alloc (.cells #[.int .i64 h.p, .int .i64 h.c, .int .i64 h.m] 23)).alloc (.cells #[.int .i64 0, .int .i64 0, .int .i64 0, .slice none 0 0] 72) = W at *
      obtain ⟨H, hH, hH'⟩ : ∃ H, Hid (H = w.heap.size) ∧ H = w.heap.size := ⟨_, Lib.hid rfl, rfl⟩
      rw [← hH'] at bS bR hsz hbW ⊢
      clear hH'
      have c0 := rowCells bS 0
      have c1 := rowCells bS 1
      have c2 := rowCells bS 2
      have r0 := rowCells bR 0
      have r1 := rowCells bR 1
      have r2 := rowCells bR 2
      have r3 := rowCells bR 3
      have f0 := rowFree bR 0
      have f1 := rowFree bR 1
      have f2 := rowFree bR 2
      have f3 := rowFree bR 3
      have l0 : H < W.heap.size := by omega
      have l1 : H + 1 < W.heap.size := by omega
      have hK : ∀ X Y : World, (X.cell? ⟨H, 0, .none⟩ = some (.int .i64 h.p) ∧ X.cell? ⟨H, 1, .none⟩ = some (.int .i64 h.c) ∧ X.cell? ⟨H, 2, .none⟩ = some (.int .i64 h.m)) → Below X.heap.size X Y → (Y.cell? ⟨H, 0, .none⟩ = some (.int .i64 h.p) ∧ Y.cell? ⟨H, 1, .none⟩ = some (.int .i64 h.c) ∧ Y.cell? ⟨H, 2, .none⟩ = some (.int .i64 h.m)) := fun X Y ⟨a, b, c⟩ hb => ⟨keepF hb _ _ _ a, keepF hb _ _ _ b, keepF hb _ _ _ c⟩
      replace hK := Lib.hid hK
      have hBa : Below W.heap.size W (W.drew.alloc (.cells #[.int .i64 h.p, .int .i64 h.c, .int .i64 h.m] 23)) := ((Below.refl _ _).drew).alloc (Nat.le_refl _) _
      go_region_held3 (fun X => X.cell? ⟨H, 0, .none⟩ = some (.int .i64 h.p) ∧ X.cell? ⟨H, 1, .none⟩ = some (.int .i64 h.c) ∧ X.cell? ⟨H, 2, .none⟩ = some (.int .i64 h.m))
        (first | go_keep | exact hK.out _ _ (by assumption) hb2)
        (first
          | (go_at_call 42; refine (hm0.out _).mono ?_; rintro e w1 ⟨rfl, rfl⟩)
          | (go_at_call 43; refine (ht0.out _).mono ?_; rintro e w2 ⟨rfl, hb2⟩; have hBx := hBa.trans (hb2.mono (by simp)); have r0' := keepF hBx _ _ _ r0; have r1' := keepF hBx _ _ _ r1; have r2' := keepF hBx _ _ _ r2; have r3' := keepF hBx _ _ _ r3; have fR' := fun o => (bfree hBx (H + 1) o l1).trans (rowFree bR o); have hBw := hbW.trans (hBx.mono (by omega))))
      go_wp2
      exact bodyPost_ret (v := .tuple #[.agg #[.int .i64 h.p, .int .i64 h.c, .int .i64 h.m, .slice ao n cap], .bool true]) (by simp [results, Try.results36, go_sem, r0', r1', r2', r3']) rfl ⟨by rw [hd]; rfl, by rw [← hH.out]; exact ((((hBw.setCell (by simp) _).setCell (by simp) _).setCell (by simp) _).setCell (by simp) _)⟩
    · rw [hok]
      clear hok
      go_enter Try.func36, Try.ntmps36
      go_upto_region 1 with fail
      obtain ⟨bS, bR, hsz, hbW⟩ := two_blocks w (.cells #[.int .i64 h.p, .int .i64 h.c, .int .i64 h.m] 23) (.cells #[.int .i64 0, .int .i64 0, .int .i64 0, .slice none 0 0] 72)
      generalize (w.alloc (.cells #[.int .i64 h.p, .int .i64 h.c, .int .i64 h.m] 23)).alloc (.cells #[.int .i64 0, .int .i64 0, .int .i64 0, .slice none 0 0] 72) = W at *
      obtain ⟨H, hH, hH'⟩ : ∃ H, Hid (H = w.heap.size) ∧ H = w.heap.size := ⟨_, Lib.hid rfl, rfl⟩
      rw [← hH'] at bS bR hsz hbW ⊢
      clear hH'
      have c0 := rowCells bS 0
      have c1 := rowCells bS 1
      have c2 := rowCells bS 2
      have r0 := rowCells bR 0
      have r1 := rowCells bR 1
      have r2 := rowCells bR 2
      have r3 := rowCells bR 3
      have f0 := rowFree bR 0
      have f1 := rowFree bR 1
      have f2 := rowFree bR 2
      have f3 := rowFree bR 3
      have l0 : H < W.heap.size := by omega
      have l1 : H + 1 < W.heap.size := by omega
      have hK : ∀ X Y : World, (X.cell? ⟨H, 0, .none⟩ = some (.int .i64 h.p) ∧ X.cell? ⟨H, 1, .none⟩ = some (.int .i64 h.c) ∧ X.cell? ⟨H, 2, .none⟩ = some (.int .i64 h.m)) → Below X.heap.size X Y → (Y.cell? ⟨H, 0, .none⟩ = some (.int .i64 h.p) ∧ Y.cell? ⟨H, 1, .none⟩ = some (.int .i64 h.c) ∧ Y.cell? ⟨H, 2, .none⟩ = some (.int .i64 h.m)) := fun X Y ⟨a, b, c⟩ hb => ⟨keepF hb _ _ _ a, keepF hb _ _ _ b, keepF hb _ _ _ c⟩
      replace hK := Lib.hid hK
      have hBa : Below W.heap.size W (W.drew.alloc (.cells #[.int .i64 h.p, .int .i64 h.c, .int .i64 h.m] 23)) := ((Below.refl _ _).drew).alloc (Nat.le_refl _) _
      go_region_held3 (fun X => X.cell? ⟨H, 0, .none⟩ = some (.int .i64 h.p) ∧ X.cell? ⟨H, 1, .none⟩ = some (.int .i64 h.c) ∧ X.cell? ⟨H, 2, .none⟩ = some (.int .i64 h.m))
        (first | go_keep | exact hK.out _ _ (by assumption) hb2)
        (first
          | (go_at_call 42; refine (hm0.out _).mono ?_; rintro e w1 ⟨rfl, rfl⟩)
          | (go_at_call 43; refine (ht0.out _).mono ?_; rintro e w2 ⟨rfl, hb2⟩; have hBx := hBa.trans (hb2.mono (by simp)); have r0' := keepF hBx _ _ _ r0; have r1' := keepF hBx _ _ _ r1; have r2' := keepF hBx _ _ _ r2; have r3' := keepF hBx _ _ _ r3; have fR' := fun o => (bfree hBx (H + 1) o l1).trans (rowFree bR o); have hBw := hbW.trans (hBx.mono (by omega))))
      go_wp2
      exact bodyPost_ret (v := .tuple #[.agg #[.int .i64 h.p, .int .i64 h.c, .int .i64 h.m, .slice ao n cap], .bool false]) (by simp [results, Try.results36, go_sem, r0', r1', r2', r3']) rfl ⟨by rw [hd]; rfl, by rw [← hH.out]; exact ((((hBw.setCell (by simp) _).setCell (by simp) _).setCell (by simp) _).setCell (by simp) _)⟩

/-- What a book's methods lean on. -/
structure Bok (w : World) (v : Value) (h : Hp) : Prop where
  ok : h.ok = true
  rd : RdZ .u64 w v h.xs
  fit : h.fit
theorem Bok.below {w w' : World} {v : Value} {h : Hp} (b : Bok w v h) (hb : Below w.heap.size w w') : Bok w' v h := ⟨b.ok, b.rd.below hb, b.fit⟩
theorem Bok.may {w : World} {v : Value} {h : Hp} (b : Bok w v h) : mayB h.p h.c h.m = true := by
  have := b.ok
  unfold Hp.ok at this
  rw [Bool.and_eq_true] at this
  exact this.1
theorem Bok.len {w : World} {v : Value} {h : Hp} (b : Bok w v h) : totalV h.p h.c h.m ≤ (h.xs.length : Int) := by
  have := b.ok
  unfold Hp.ok at this
  rw [Bool.and_eq_true, decide_eq_true_eq] at this
  exact this.2
theorem Bok.bd {w : World} {v : Value} {h : Hp} (b : Bok w v h) : (1 ≤ h.p ∧ h.p ≤ 64) ∧ (1 ≤ h.c ∧ h.c ≤ 12) ∧ (0 ≤ h.m ∧ h.m ≤ 8) ∧ h.c + h.p + h.p * 16 + h.c * h.m ≤ (h.xs.length : Int) := by
  have h1 := mayB_iff.1 b.may
  have h2 := b.len
  unfold totalV at h2
  rw [if_pos b.may] at h2
  omega
/-- A word of the heap, in memory. -/
theorem Bok.word {w : World} {v : Value} {h : Hp} (b : Bok w v h) (i : Int) (h0 : 0 ≤ i) (h1 : i < (h.xs.length : Int)) : ∃ g off cap, ∃ k : Nat, v = .slice (some ⟨g, off, .none⟩) h.xs.length cap ∧ h.xs.length ≤ cap ∧ g < w.heap.size ∧ i = (k : Int) ∧ k < h.xs.length ∧ w.cell? ⟨g, off + k, .none⟩ = some (.int .u64 (wd h.xs i)) := by
  obtain ⟨ao, cap, e, hcap, hcm, hrow⟩ := b.rd.cells
  obtain ⟨g, off, rfl, hg, hc⟩ := hrow (fun e => by rw [e] at h1; simp at h1; omega)
  refine ⟨g, off, cap, i.toNat, e, hcap, hg, by omega, by omega, ?_⟩
  rw [hc i.toNat (by omega), wd_get h0 h1]

set_option maxRecDepth 100000 in
set_option maxHeartbeats 1000000 in
theorem page_any (h : Hp) (v : Value) (a : Int) (w : World) (b : Bok w v h) (ha : 0 ≤ a ∧ a < h.p) :
    Calls Try.prog 46 #[bookV h v, .int .i64 a] w fun e w' => e = .returned (.tuple #[.agg #[.int .i64 (h.pk a), .int .i64 (h.pa a), .int .i64 (h.pn a)], .bool (h.pb a)]) ∧ Below w.heap.size w w' := by
  obtain ⟨b1, b2, b3, b4⟩ := b.bd
  have hcm := mul_bd (c := h.c) (m := h.m) (C := 12) (M := 8) (by omega) (by omega)
  have hix : pageIx h.p h.c h.m a = h.c + a := by unfold pageIx; rw [if_pos ⟨b.may, wi_iff.2 (by omega)⟩]
  obtain ⟨g, off, cap, k, rfl, hcap, hg, hk, hkn, hc⟩ := b.word (h.c + a) (by omega) (by omega)
  have hw := h.wd_bd b.fit (h.c + a)
  have hpg := planPage_any h.p h.c h.m a
  rw [hix, hk] at hpg
  have hrp := fun w => readPage_any h.p h.c h.m a (h.pw a) w hw.1 hw.2
  have hagg : (if readPageB h.p h.c h.m a (h.pw a) = true then #[.int .i64 (kindV (h.pw a)), .int .i64 (partV (h.pw a) 0), .int .i64 (partV (h.pw a) 1)] else #[.int .i64 0, .int .i64 0, .int .i64 0] : Array Value) = #[.int .i64 (h.pk a), .int .i64 (h.pa a), .int .i64 (h.pn a)] := by
    unfold Hp.pk Hp.pa Hp.pn
    show (if h.pb a = true then _ else _) = _
    cases h.pb a <;> rfl
  rw [hagg] at hrp
  replace hrp : ∀ w, Calls Try.prog 55 #[.agg #[.int .i64 h.p, .int .i64 h.c, .int .i64 h.m], .int .i64 a, .int .u64 (h.pw a)] w fun e w' => Below w.heap.size w w' ∧ e = .returned (.tuple #[.agg #[.int .i64 (h.pk a), .int .i64 (h.pa a), .int .i64 (h.pn a)], .bool (h.pb a)]) := hrp
  have hx : wd h.xs (h.c + a) = h.pw a := rfl
  rw [hx] at hc
  generalize h.pw a = x at *
  generalize h.pk a = k1 at *
  generalize h.pa a = k2 at *
  generalize h.pn a = k3 at *
  generalize h.pb a = k4 at *
  generalize h.xs.length = n at *
  replace hpg := Lib.hid hpg
  replace hrp := Lib.hid hrp
  have hk0 : (0 : Int) ≤ (k : Int) := by omega
  have hk1 : (k : Int) < (n : Int) := by omega
  clear hagg hix hk b hw hx
  go_enter Try.func46, Try.ntmps46
  go_upto_region 1 with fail
  obtain ⟨bS, bR, hsz, hbW⟩ := two_blocks w (.cells #[.int .i64 h.p, .int .i64 h.c, .int .i64 h.m, .slice (some ⟨g, off, .none⟩) n cap] 72) (.cells #[.int .i64 0, .int .i64 0, .int .i64 0] 79)
  replace hc := keepF hbW _ _ _ hc
  generalize (w.alloc (.cells #[.int .i64 h.p, .int .i64 h.c, .int .i64 h.m, .slice (some ⟨g, off, .none⟩) n cap] 72)).alloc (.cells #[.int .i64 0, .int .i64 0, .int .i64 0] 79) = W at *
  obtain ⟨H, hH, hH'⟩ : ∃ H, Hid (H = w.heap.size) ∧ H = w.heap.size := ⟨_, Lib.hid rfl, rfl⟩
  rw [← hH'] at bS bR hsz hbW ⊢
  have hgH : H + 1 ≠ g := by omega
  clear hH'
  have c0 : W.cell? ⟨H, 0, .none⟩ = some (.int .i64 h.p) := rowCells bS 0
  have c1 : W.cell? ⟨H, 1, .none⟩ = some (.int .i64 h.c) := rowCells bS 1
  have c2 : W.cell? ⟨H, 2, .none⟩ = some (.int .i64 h.m) := rowCells bS 2
  have c3 : W.cell? ⟨H, 3, .none⟩ = some (.slice (some ⟨g, off, .none⟩) n cap) := rowCells bS 3
  have r0 := rowCells bR 0
  have r1 := rowCells bR 1
  have r2 := rowCells bR 2
  have fR := rowFree bR
  have l0 : H < W.heap.size := by omega
  have l1 : H + 1 < W.heap.size := by omega
  have hK : ∀ Y, Below W.heap.size W Y → Y.cell? ⟨H, 0, .none⟩ = some (.int .i64 h.p) ∧ Y.cell? ⟨H, 1, .none⟩ = some (.int .i64 h.c) ∧ Y.cell? ⟨H, 2, .none⟩ = some (.int .i64 h.m) ∧ Y.cell? ⟨H, 3, .none⟩ = some (.slice (some ⟨g, off, .none⟩) n cap) ∧ Y.cell? ⟨g, off + k, .none⟩ = some (.int .u64 x) := fun Y hb => ⟨keepF hb _ _ _ c0, keepF hb _ _ _ c1, keepF hb _ _ _ c2, keepF hb _ _ _ c3, keepF hb _ _ _ hc⟩
  replace hK := Lib.hid hK
  have hbd : Below W.heap.size W W.drew := (Below.refl _ _).drew
  go_region_held3 (fun Y => Y.cell? ⟨H, 0, .none⟩ = some (.int .i64 h.p) ∧ Y.cell? ⟨H, 1, .none⟩ = some (.int .i64 h.c) ∧ Y.cell? ⟨H, 2, .none⟩ = some (.int .i64 h.m) ∧ Y.cell? ⟨H, 3, .none⟩ = some (.slice (some ⟨g, off, .none⟩) n cap) ∧ Y.cell? ⟨g, off + k, .none⟩ = some (.int .u64 x))
    (first | go_keep | exact hK.out _ (by assumption))
    (first
      | (go_at_call 56; refine (hpg.out _).mono ?_; rintro e w1 ⟨rfl, hb⟩; have hb1 := hbd.trans (hb.mono (Nat.le_refl _)); have hbs1 := hb1.size)
      | (go_at_call 55; refine (hrp.out _).mono ?_; rintro e w2 ⟨hb, rfl⟩; have hb2 := hb1.trans (hb.mono hbs1); have r0' := keepF hb2 _ _ _ r0; have r1' := keepF hb2 _ _ _ r1; have r2' := keepF hb2 _ _ _ r2; have fR' := fun o => (bfree hb2 (H + 1) o l1).trans (fR o); have hBw := hbW.trans (hb2.mono (by omega))))
  go_wp2
  exact bodyPost_ret (v := .tuple #[.agg #[.int .i64 k1, .int .i64 k2, .int .i64 k3], .bool k4]) (by simp [results, Try.results46, go_sem, r0', r1', r2']) rfl ⟨rfl, by rw [← hH.out]; exact (((hBw.setCell (by simp) _).setCell (by simp) _).setCell (by simp) _)⟩

set_option maxRecDepth 100000 in
set_option maxHeartbeats 1000000 in
theorem slot_any (h : Hp) (v : Value) (a i : Int) (w : World) (b : Bok w v h) (ha : 0 ≤ a ∧ a < h.p) (hi : 0 ≤ i ∧ i < 16) :
    Calls Try.prog 61 #[bookV h v, .int .i64 a, .int .i64 i] w fun e w' => e = .returned (.agg #[.int .i64 (h.sk a i), .int .i64 (h.sa a i)]) ∧ Below w.heap.size w w' := by
  obtain ⟨b1, b2, b3, b4⟩ := b.bd
  have hcm := mul_bd (c := h.c) (m := h.m) (C := 12) (M := 8) (by omega) (by omega)
  have hix : slotIx h.p h.c h.m a i = h.c + h.p + a * 16 + i := by unfold slotIx; rw [if_pos ⟨b.may, wi_iff.2 (by omega), wi_iff.2 (by omega)⟩]
  obtain ⟨g, off, cap, k, rfl, hcap, hg, hk, hkn, hc⟩ := b.word (h.c + h.p + a * 16 + i) (by omega) (by omega)
  have hw := h.wd_bd b.fit (h.c + h.p + a * 16 + i)
  have hpg := planSlot_any h.p h.c h.m a i
  rw [hix, hk] at hpg
  have hrp := fun w => readSlot_any (h.sw a i) w hw.1 hw.2
  have hagg : (if readSlotB (h.sw a i) = true then #[.int .i64 (kindV (h.sw a i)), .int .i64 (partV (h.sw a i) 0)] else #[.int .i64 0, .int .i64 0] : Array Value) = #[.int .i64 (h.sk a i), .int .i64 (h.sa a i)] := by
    unfold Hp.sk Hp.sa
    cases readSlotB (h.sw a i) <;> rfl
  rw [hagg] at hrp
  replace hrp : ∀ w, Calls Try.prog 58 #[.int .u64 (h.sw a i)] w fun e w' => Below w.heap.size w w' ∧ e = .returned (.agg #[.int .i64 (h.sk a i), .int .i64 (h.sa a i)]) := hrp
  have hx : wd h.xs (h.c + h.p + a * 16 + i) = h.sw a i := rfl
  rw [hx] at hc
  generalize h.sw a i = x at *
  generalize h.sk a i = k1 at *
  generalize h.sa a i = k2 at *
  generalize h.xs.length = n at *
  replace hpg := Lib.hid hpg
  replace hrp := Lib.hid hrp
  have hk0 : (0 : Int) ≤ (k : Int) := by omega
  have hk1 : (k : Int) < (n : Int) := by omega
  clear hagg hix hk b hw hx
  go_enter Try.func61, Try.ntmps61
  go_upto_region 1 with fail
  obtain ⟨bS, bR, hsz, hbW⟩ := two_blocks w (.cells #[.int .i64 h.p, .int .i64 h.c, .int .i64 h.m, .slice (some ⟨g, off, .none⟩) n cap] 72) (.cells #[.int .i64 0, .int .i64 0] 87)
  replace hc := keepF hbW _ _ _ hc
  generalize (w.alloc (.cells #[.int .i64 h.p, .int .i64 h.c, .int .i64 h.m, .slice (some ⟨g, off, .none⟩) n cap] 72)).alloc (.cells #[.int .i64 0, .int .i64 0] 87) = W at *
  obtain ⟨H, hH, hH'⟩ : ∃ H, Hid (H = w.heap.size) ∧ H = w.heap.size := ⟨_, Lib.hid rfl, rfl⟩
  rw [← hH'] at bS bR hsz hbW ⊢
  have hgH : H + 1 ≠ g := by omega
  clear hH'
  have c0 : W.cell? ⟨H, 0, .none⟩ = some (.int .i64 h.p) := rowCells bS 0
  have c1 : W.cell? ⟨H, 1, .none⟩ = some (.int .i64 h.c) := rowCells bS 1
  have c2 : W.cell? ⟨H, 2, .none⟩ = some (.int .i64 h.m) := rowCells bS 2
  have c3 : W.cell? ⟨H, 3, .none⟩ = some (.slice (some ⟨g, off, .none⟩) n cap) := rowCells bS 3
  have r0 := rowCells bR 0
  have r1 := rowCells bR 1
  have fR := rowFree bR
  have l0 : H < W.heap.size := by omega
  have l1 : H + 1 < W.heap.size := by omega
  have hK : ∀ Y, Below W.heap.size W Y → Y.cell? ⟨H, 0, .none⟩ = some (.int .i64 h.p) ∧ Y.cell? ⟨H, 1, .none⟩ = some (.int .i64 h.c) ∧ Y.cell? ⟨H, 2, .none⟩ = some (.int .i64 h.m) ∧ Y.cell? ⟨H, 3, .none⟩ = some (.slice (some ⟨g, off, .none⟩) n cap) ∧ Y.cell? ⟨g, off + k, .none⟩ = some (.int .u64 x) := fun Y hb => ⟨keepF hb _ _ _ c0, keepF hb _ _ _ c1, keepF hb _ _ _ c2, keepF hb _ _ _ c3, keepF hb _ _ _ hc⟩
  replace hK := Lib.hid hK
  have hbd : Below W.heap.size W W.drew := (Below.refl _ _).drew
  go_region_held3 (fun Y => Y.cell? ⟨H, 0, .none⟩ = some (.int .i64 h.p) ∧ Y.cell? ⟨H, 1, .none⟩ = some (.int .i64 h.c) ∧ Y.cell? ⟨H, 2, .none⟩ = some (.int .i64 h.m) ∧ Y.cell? ⟨H, 3, .none⟩ = some (.slice (some ⟨g, off, .none⟩) n cap) ∧ Y.cell? ⟨g, off + k, .none⟩ = some (.int .u64 x))
    (first | go_keep | exact hK.out _ (by assumption))
    (first
      | (go_at_call 59; refine (hpg.out _).mono ?_; rintro e w1 ⟨rfl, hb⟩; have hb1 := hbd.trans (hb.mono (Nat.le_refl _)); have hbs1 := hb1.size)
      | (go_at_call 58; refine (hrp.out _).mono ?_; rintro e w2 ⟨hb, rfl⟩; have hb2 := hb1.trans (hb.mono hbs1); have r0' := keepF hb2 _ _ _ r0; have r1' := keepF hb2 _ _ _ r1; have fR' := fun o => (bfree hb2 (H + 1) o l1).trans (fR o); have hBw := hbW.trans (hb2.mono (by omega))))
  go_wp2
  exact bodyPost_ret (v := .agg #[.int .i64 k1, .int .i64 k2]) (by simp [results, Try.results61, go_sem, r0', r1']) rfl ⟨rfl, by rw [← hH.out]; exact ((hBw.setCell (by simp) _).setCell (by simp) _)⟩

theorem readStatus_any (x : Int) (w : World) (h0 : 0 ≤ x) (h1 : x < 18446744073709551616) :
    Calls Try.prog 74 #[.int .u64 x] w fun e w' => Below w.heap.size w w' ∧ e = .returned (.tuple (if (statusV (kindV x) (partV x 0) == x) = true then #[.int .i64 (kindV x), .int .i64 (partV x 0)] else #[.int .i64 0, .int .i64 0])) := by
  have hp0 := fun w => part_any x 0 w h0 h1 (by omega)
  have hk0 := fun w => kind_any x w h0 h1
  generalize kindV x = k at *
  generalize partV x 0 = A at *
  by_cases h2 : statusV k A = x
  · have h2' : (statusV k A != x) = false := by simpa using h2
    have h3 : (statusV k A == x) = true := by simpa using h2
    rw [h3, if_pos rfl]
    clear h2 h3
    go_enter Try.func74, Try.ntmps74
    go_wp2_with (first
      | (go_at_call 81; refine (hk0 _).mono ?_; rintro e w1 ⟨rfl, rfl⟩)
      | (go_at_call 82; refine (hp0 _).mono ?_; rintro e w1 ⟨rfl, rfl⟩)
      | (go_at_call 90; refine (status_any _ _ _).mono ?_; rintro e w2 ⟨rfl, hb⟩))
    go_ret2
    exact ⟨hb, rfl⟩
  · have h2' : (statusV k A != x) = true := by simpa using h2
    have h3 : (statusV k A == x) = false := by simpa using h2
    rw [h3, if_neg Bool.false_ne_true]
    clear h2 h3
    go_enter Try.func74, Try.ntmps74
    go_wp2_with (first
      | (go_at_call 81; refine (hk0 _).mono ?_; rintro e w1 ⟨rfl, rfl⟩)
      | (go_at_call 82; refine (hp0 _).mono ?_; rintro e w1 ⟨rfl, rfl⟩)
      | (go_at_call 90; refine (status_any _ _ _).mono ?_; rintro e w2 ⟨rfl, hb⟩))
    go_ret2
    exact ⟨hb, rfl⟩
end Go.Proofs.Ytfknaheijidhcaa

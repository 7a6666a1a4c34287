/- A judge: New, Ruling, Pending, Rule: the walks. -/
import Derived.Test.YtclidckjnoafcaaJudK

namespace Go.Proofs.Ytclidckjnoafcaa

open Go.RowKit

attribute [local go_sem ↓] Go.wp_at_zero Go.wp_at_succ

theorem Mdl.base {T E : TypeId} {B B' : Nat} {w : World} {s : Nat} {W : Int} (h : Mdl T E B w s (.slice none 0 0) W []) (hB : B' ≤ B) : Mdl T E B' w s (.slice none 0 0) W [] :=
  ⟨Nat.le_trans hB h.lies, h.head, ⟨rfl, .inl ⟨rfl, rfl⟩⟩, h.apart, h.ok, h.small⟩
theorem infoPt : (Try.prog.info? 61).map (fun i => (i.zero, i.size, i.bytes)) = some (some (.agg #[.bool false, .bool false, .bool false, .int .i64 0, .int .i64 0, .int .i64 0, .bool false, .bool false, .int .i64 0, .bool false]), 10, 56) := by kernel_rfl
theorem made_pts (n : Nat) : madeCells #[.bool false, .bool false, .bool false, .int .i64 0, .int .i64 0, .int .i64 0, .bool false, .bool false, .int .i64 0, .bool false] (n * 10) = (ptsC (List.replicate n Pt.zero)).toArray := by
  apply Array.toList_inj.1
  apply List.ext_getElem?
  intro x
  rcases Nat.lt_or_ge x (n * 10) with hx | hx
  · obtain ⟨i, j, hj, rfl⟩ : ∃ i j : Nat, j < 10 ∧ x = i * 10 + j := ⟨x / 10, x % 10, by omega, by omega⟩
    have h1 := ptsC_get (List.replicate n Pt.zero) i j (by rw [List.length_replicate]; omega) hj
    rw [List.getElem_replicate] at h1
    show _ = (ptsC (List.replicate n Pt.zero))[i * 10 + j]?
    rw [h1]
    have h2 : (i * 10 + j) % 10 = j := by omega
    simp only [madeCells, Array.toList_map, List.getElem?_map, Array.toList_range, List.getElem?_range hx, Option.map_some]
    show some (_[(i * 10 + j) % 10]!) = _
    rw [h2]
    have : j = 0 ∨ j = 1 ∨ j = 2 ∨ j = 3 ∨ j = 4 ∨ j = 5 ∨ j = 6 ∨ j = 7 ∨ j = 8 ∨ j = 9 := by omega
    rcases this with rfl | rfl | rfl | rfl | rfl | rfl | rfl | rfl | rfl | rfl <;> rfl
  · have h1 : (ptsC (List.replicate n Pt.zero)).length = n * 10 := by rw [ptsC_len, List.length_replicate]
    rw [List.getElem?_eq_none (by rw [Array.length_toList, size_madeCells]; exact hx), List.getElem?_eq_none (by simp only []; omega)]
theorem make_pts (n : Nat) (hn : n ≤ 12) : ∀ u : World, (Instr.makeSlice 45 (.int .i64 (n : Int)) (.int .i64 (n : Int))).run Try.prog u = .ok (.slice (some ⟨u.heap.size, 0, .none⟩) n n) (u.alloc (.cells (ptsC (List.replicate n Pt.zero)).toArray 61)) := fun u => by
  obtain ⟨i0, hi, hz0, hz1, hz2⟩ := info_parts infoPt
  have h := run_make (P := Try.prog) u 45 61 i0 _ Try.underlying45 hi hz0 .i64 .i64 (n : Int) (n : Int) (by omega) (Int.le_refl _) (by rw [hz2]; omega) (by omega)
  rw [Int.toNat_natCast] at h
  rw [← made_pts n]
  simpa [hz1, Value.cells] using h

set_option maxHeartbeats 1000000 in
theorem ruling_any {B : Nat} {w : World} {jb s pb : Nat} {sl : Value} {J : Jd} (h : JgA B w jb s pb sl J) :
    Calls Try.prog 16 #[.pointer (some ⟨jb, 0, .none⟩)] w fun r w' => r = .returned (.agg #[.int .i64 J.at', .int .i64 J.why]) ∧ Below w.heap.size w w' := by
  have hnil : ∀ W a, (binOp .eql 32 (.pointer (some a)) (.pointer none)).run Try.prog W = .ok (.bool false) W := fun W a => by kernel_rfl
  have b1 := (Below.refl w.heap.size w).alloc (Nat.le_refl _) (.cells #[.int .i64 0, .int .i64 0] 27)
  have t1 := heap_alloc_new w (.cells #[.int .i64 0, .int .i64 0] 27)
  have hJ := h.below b1
  have h3 := hJ.h3
  have h4 := hJ.h4
  go_enter Try.func16, Try.ntmps16
  go_upto_region 1 with fail
  generalize w.alloc (.cells #[.int .i64 0, .int .i64 0] 27) = W at *
  obtain ⟨H, hH, hH'⟩ : ∃ H, Hid (H = w.heap.size) ∧ H = w.heap.size := ⟨_, Lib.hid rfl, rfl⟩
  have hwH : w.heap.size ≤ H := by omega
  rw [← hH'] at t1 ⊢
  clear hH'
  have r0 := (rowCells t1 0).trans (show _ = some (.int .i64 0) from rfl)
  have r1 := (rowCells t1 1).trans (show _ = some (.int .i64 0) from rfl)
  have rF := rowFree t1
  go_wp2
  exact bodyPost_ret (v := .agg #[.int .i64 J.at', .int .i64 J.why]) (by simp [results, Try.results16, go_sem, r0, r1]) rfl ⟨rfl, by rw [hH.out]; exact (b1.setCell (p := ⟨w.heap.size, 0, .none⟩) (Nat.le_refl _) _).setCell (p := ⟨w.heap.size, 1, .none⟩) (Nat.le_refl _) _⟩

/-- What Pending says. -/
def pendP (ps : List Pt) (c : Int) : Pt := if c < 0 ∨ (ps.length : Int) ≤ c then Pt.zero else ps.getD c.toNat Pt.zero
set_option maxHeartbeats 2000000 in
theorem pending_any {B : Nat} {w : World} {jb s pb : Nat} {sl : Value} {J : Jd} (h : JgA B w jb s pb sl J) (c : Int) :
    Calls Try.prog 24 #[.pointer (some ⟨jb, 0, .none⟩), .int .i64 c] w fun r w' => (∃ k a n, r = .returned (.tuple #[.agg #[.int .i64 k, .int .i64 a, .int .i64 n], .bool (pendP J.ps c).asks])) ∧ Below w.heap.size w w' := by
  have hnil : ∀ W a, (binOp .eql 69 (.pointer (some a)) (.pointer none)).run Try.prog W = .ok (.bool false) W := fun W a => by kernel_rfl
  have hnil2 : ∀ W, (binOp .eql 69 (.pointer none) (.pointer none)).run Try.prog W = .ok (.bool true) W := fun W => by kernel_rfl
  have b1 := (Below.refl w.heap.size w).alloc (Nat.le_refl _) (.cells #[.int .i64 0, .int .i64 0, .int .i64 0] 31)
  have t1 := heap_alloc_new w (.cells #[.int .i64 0, .int .i64 0, .int .i64 0] 31)
  have hJ := h.below b1
  have hof := of_any hJ c
  obtain ⟨H, hH, hH'⟩ : ∃ H, Hid (H = w.heap.size) ∧ H = w.heap.size := ⟨_, Lib.hid rfl, rfl⟩
  have hwH : w.heap.size ≤ H := by omega
  by_cases hc : c < 0 ∨ (J.ps.length : Int) ≤ c
  · rw [if_pos hc] at hof
    rw [show (pendP J.ps c).asks = false by unfold pendP; rw [if_pos hc]; rfl]
    replace hof := Lib.hid hof
    clear hc
    go_enter Try.func24, Try.ntmps24
    go_upto_region 1 with fail
    generalize w.alloc (.cells #[.int .i64 0, .int .i64 0, .int .i64 0] 31) = W at *
    rw [← hH'] at t1 ⊢
    clear hH'
    have r0 := (rowCells t1 0).trans (show _ = some (.int .i64 0) from rfl)
    have r1 := (rowCells t1 1).trans (show _ = some (.int .i64 0) from rfl)
    have r2 := (rowCells t1 2).trans (show _ = some (.int .i64 0) from rfl)
    have rF := rowFree t1
    go_wp2_with (go_at_call 28; refine hof.out.mono ?_; rintro r w1 ⟨rfl, hw⟩; obtain rfl := hw.symm)
    exact bodyPost_ret (v := .tuple #[.agg #[.int .i64 0, .int .i64 0, .int .i64 0], .bool false]) (by simp [results, Try.results24, go_sem, r0, r1, r2]) rfl ⟨⟨0, 0, 0, rfl⟩, by rw [hH.out]; exact ((b1.setCell (p := ⟨w.heap.size, 0, .none⟩) (Nat.le_refl _) _).setCell (p := ⟨w.heap.size, 1, .none⟩) (Nat.le_refl _) _).setCell (p := ⟨w.heap.size, 2, .none⟩) (Nat.le_refl _) _⟩
  · rw [if_neg hc] at hof
    have hil : c.toNat < J.ps.length := by omega
    have hps : J.ps ≠ [] := fun e => by rw [e] at hil; simp at hil
    obtain ⟨p, hp⟩ : ∃ p, J.ps[c.toNat] = p := ⟨_, rfl⟩
    have hpd : pendP J.ps c = p := by unfold pendP; rw [if_neg hc, List.getD_eq_getElem?_getD, List.getElem?_eq_getElem hil, hp]; rfl
    rw [hpd]
    have hpt := ((hJ.row hps).pt c.toNat hil).of_eq hp
    obtain ⟨o, ho⟩ : ∃ o, o = c.toNat * 10 := ⟨_, rfl⟩
    rw [← ho] at hof hpt
    clear ho hpd hp hc
    replace hof := Lib.hid hof
    obtain ⟨hlt2, c0, c1, c2, c3, c4, c5, c6, c7, c8, c9, hfr⟩ := hpt
    have hbH : pb ≠ H := by have := h.plt; omega
    go_enter Try.func24, Try.ntmps24
    go_upto_region 1 with fail
    generalize w.alloc (.cells #[.int .i64 0, .int .i64 0, .int .i64 0] 31) = W at *
    rw [← hH'] at t1 ⊢
    clear hH'
    have r0 := (rowCells t1 0).trans (show _ = some (.int .i64 0) from rfl)
    have r1 := (rowCells t1 1).trans (show _ = some (.int .i64 0) from rfl)
    have r2 := (rowCells t1 2).trans (show _ = some (.int .i64 0) from rfl)
    have rF := rowFree t1
    rcases Bool.eq_false_or_eq_true p.asks with ha | ha
    · rw [ha] at c2
      go_wp2_with (go_at_call 28; refine hof.out.mono ?_; rintro r w1 ⟨rfl, hw⟩; obtain rfl := hw.symm)
      exact bodyPost_ret (v := .tuple #[.agg #[.int .i64 p.k, .int .i64 p.a, .int .i64 p.n], .bool true]) (by simp [results, Try.results24, go_sem, r0, r1, r2]) rfl ⟨⟨_, _, _, by rw [ha]⟩, by rw [hH.out]; exact ((b1.setCell (p := ⟨w.heap.size, 0, .none⟩) (Nat.le_refl _) _).setCell (p := ⟨w.heap.size, 1, .none⟩) (Nat.le_refl _) _).setCell (p := ⟨w.heap.size, 2, .none⟩) (Nat.le_refl _) _⟩
    · rw [ha] at c2
      go_wp2_with (go_at_call 28; refine hof.out.mono ?_; rintro r w1 ⟨rfl, hw⟩; obtain rfl := hw.symm)
      exact bodyPost_ret (v := .tuple #[.agg #[.int .i64 0, .int .i64 0, .int .i64 0], .bool false]) (by simp [results, Try.results24, go_sem, r0, r1, r2]) rfl ⟨⟨0, 0, 0, by rw [ha]⟩, by rw [hH.out]; exact ((b1.setCell (p := ⟨w.heap.size, 0, .none⟩) (Nat.le_refl _) _).setCell (p := ⟨w.heap.size, 1, .none⟩) (Nat.le_refl _) _).setCell (p := ⟨w.heap.size, 2, .none⟩) (Nat.le_refl _) _⟩

/-- What New makes. -/
def Made (w w' : World) (r : Ending) (J : Jd) : Prop := ∃ jb s pb, r = .returned (.pointer (some ⟨jb, 0, .none⟩)) ∧ Below w.heap.size w w' ∧ JgA w.heap.size w' jb s pb (.slice none 0 0) J

set_option maxRecDepth 100000 in
set_option maxHeartbeats 2000000 in
theorem jnew_any (p c m : Int) (w : World) :
    Calls Try.prog 9 #[.agg #[.int .i64 p, .int .i64 c, .int .i64 m]] w fun r w' => Made w w' r (newJ p c m) := by
  have hnew := Lib.hid (fun n X => new_any n X)
  have hmay := fun X => may_any p c m X
  have b1 := (Below.refl w.heap.size w).alloc (Nat.le_refl _) (.cells #[.int .i64 p, .int .i64 c, .int .i64 m] 23)
  have t1 := heap_alloc_new w (.cells #[.int .i64 p, .int .i64 c, .int .i64 m] 23)
  obtain ⟨JR, hJR⟩ : ∃ JR, Hid (JR = newJ p c m) := ⟨_, Lib.hid rfl⟩
  rw [← hJR.out]
  have hcases : (mayB p c m = false ∧ JR = ⟨0, [], [], 0, -1, 0⟩) ∨ (mayB p c m = true ∧ JR = ⟨p * 64, [], List.replicate c.toNat Pt.zero, 0, -1, 0⟩ ∧ (1 ≤ p ∧ p ≤ 64) ∧ (1 ≤ c ∧ c ≤ 12)) := by
    rcases Bool.eq_false_or_eq_true (mayB p c m) with hm | hm
    · exact .inr ⟨hm, by rw [hJR.out]; unfold newJ; rw [if_pos hm], by have := mayB_iff.1 hm; omega⟩
    · exact .inl ⟨hm, by rw [hJR.out]; unfold newJ; rw [if_neg (by rw [hm]; decide)]⟩
  obtain ⟨H, hH, hH'⟩ : ∃ H, Hid (H = w.heap.size) ∧ H = w.heap.size := ⟨_, Lib.hid rfl, rfl⟩
  go_enter Try.func9, Try.ntmps9
  go_upto_region 1 with fail
  generalize w.alloc (.cells #[.int .i64 p, .int .i64 c, .int .i64 m] 23) = W at *
  rw [← hH'] at t1 ⊢
  clear hH'
  have lH : H < W.heap.size := (Array.getElem?_eq_some_iff.1 t1).1
  go_upto_region 2 with (go_at_call 17; refine (hnew.out _ _).mono ?_; rintro r w1 ⟨rfl, hb1, hm1⟩)
  have hs1 := hb1.size
  have b2 := hb1.alloc hb1.size (.cells #[.pointer (some ⟨W.heap.size, 0, .none⟩), .slice none 0 0, .int .i64 0, .int .i64 (-1), .int .i64 0] 47)
  have hm2 : PM W.heap.size (w1.alloc (.cells #[.pointer (some ⟨W.heap.size, 0, .none⟩), .slice none 0 0, .int .i64 0, .int .i64 (-1), .int .i64 0] 47)) W.heap.size (.slice none 0 0) (capW 0) [] := hm1.below ((Below.refl _ _).alloc (Nat.le_refl _) _)
  have tj := heap_alloc_new w1 (.cells #[.pointer (some ⟨W.heap.size, 0, .none⟩), .slice none 0 0, .int .i64 0, .int .i64 (-1), .int .i64 0] 47)
  obtain ⟨jb, hjb, hjb'⟩ : ∃ jb, Hid (jb = w1.heap.size) ∧ jb = w1.heap.size := ⟨_, Lib.hid rfl, rfl⟩
  have lWj : W.heap.size < w1.heap.size := hm1.lt
  rw [← hjb'] at tj lWj ⊢
  generalize w1.alloc (.cells #[.pointer (some ⟨W.heap.size, 0, .none⟩), .slice none 0 0, .int .i64 0, .int .i64 (-1), .int .i64 0] 47) = V at *
  have hwH : w.heap.size ≤ H := by have := hH.out; omega
  have hwW : w.heap.size ≤ W.heap.size := b1.size
  clear hjb' hm1 hb1
  have lV : jb < V.heap.size := (Array.getElem?_eq_some_iff.1 tj).1
  have d0 : V.cell? ⟨H, 0, .none⟩ = some (.int .i64 p) := keepF b2 _ _ _ (rowCells t1 0)
  have d1 : V.cell? ⟨H, 1, .none⟩ = some (.int .i64 c) := keepF b2 _ _ _ (rowCells t1 1)
  have d2 : V.cell? ⟨H, 2, .none⟩ = some (.int .i64 m) := keepF b2 _ _ _ (rowCells t1 2)
  have bV := b1.trans (b2.mono b1.size)
  rcases hcases with ⟨hm, hJ⟩ | ⟨hm, hJ, hp, hc⟩
  · rw [hm] at hmay
    replace hmay := Lib.hid hmay
    have hfin : Hid (∀ X, Below V.heap.size V X → Made w X (.returned (.pointer (some ⟨jb, 0, .none⟩))) JR) := Lib.hid fun X hX => by
      rw [hJ]
      refine ⟨jb, W.heap.size, H, rfl, bV.trans (hX.mono bV.size), ?_⟩
      have hmX := hm2.below hX
      exact ⟨(hX.block _ lV).trans tj, hmX.base hwW, fun e => absurd rfl e, ⟨by omega, hwH⟩, by have := hX.size; omega, by omega, by omega, by omega, by simp [Value.ownBlock], by simp [Value.ownBlock]⟩
    clear hJ hJR hm2
    go_wp2_with (go_at_call 18; refine (hmay.out _).mono ?_; rintro r w2 ⟨rfl, hw⟩)
    subst hw
    go_ret
    exact hfin.out _ ((Below.refl _ _).alloc (Nat.le_refl _) _)
  · rw [hm] at hmay
    replace hmay := Lib.hid hmay
    obtain ⟨cn, hcn⟩ : ∃ cn : Nat, c = (cn : Int) := ⟨c.toNat, by omega⟩
    subst hcn
    rw [Int.toNat_natCast] at hJ
    have hp64 : IntKind.i64.wrap (p * 64) = p * 64 := IntWalk.i64_in _ ⟨by omega, by omega⟩
    have hcap : capW (p * 64) = p * 64 := by unfold capW; rw [if_neg (by omega)]
    have hmk := make_pts cn (by omega)
    go_wp2_with fail
    refine (hmay.out _).mono ?_
    rintro r w2 ⟨rfl, hw⟩
    have hb22 : Below V.heap.size V w2 := hw ▸ (Below.refl _ _).alloc (Nat.le_refl _) _
    clear hw
    have d0' := keepF hb22 _ _ _ d0
    go_wp2_with fail
    refine (hnew.out _ _).mono ?_
    rintro r w3 ⟨rfl, hb3, hm3⟩
    obtain ⟨s, hs, hs'⟩ : ∃ s, Hid (s = w2.heap.size) ∧ s = w2.heap.size := ⟨_, Lib.hid rfl, rfl⟩
    have hs2 := hb22.size
    have hs3 := hb3.size
    have lsj : jb < s := by omega
    have hwS : w.heap.size ≤ s := by have := bV.size; omega
    rw [hcap, ← hs'] at hm3
    have hs4 := hm3.lt
    rw [← hs'] at hb3 hs3 ⊢
    have hbV3 : Below V.heap.size V w3 := hb22.trans (hb3.mono (by omega))
    have tj3 := (hbV3.block _ lV).trans tj
    clear hs' hb3 hb22 d0' hm2 hcap
    have j0 := rowCells tj3 0
    have j1 := rowCells tj3 1
    have jf := rowFree tj3
    have tj4 := heap_setCell_same w3 jb 0 _ _ (.pointer (some ⟨s, 0, .none⟩)) tj3
    have hB4 : Below w.heap.size w (w3.setCell ⟨jb, 0, .none⟩ (.pointer (some ⟨s, 0, .none⟩))) := Below.setCell (bV.trans (hbV3.mono bV.size)) (by show w.heap.size ≤ jb; omega) _
    have hm4 : PM s (w3.setCell ⟨jb, 0, .none⟩ (.pointer (some ⟨s, 0, .none⟩))) s (.slice none 0 0) (p * 64) [] := hm3.blocks fun k hk => by
      rcases hk with rfl | hk
      · exact heap_setCell_other w3 ⟨jb, 0, .none⟩ k _ (by simp; omega)
      · simp [Value.ownBlock] at hk
    have d1' : (w3.setCell ⟨jb, 0, .none⟩ (.pointer (some ⟨s, 0, .none⟩))).cell? ⟨H, 1, .none⟩ = some (.int .i64 (cn : Int)) := by
      have h1 := keepF hbV3 _ _ _ d1
      have h2 := heap_setCell_other w3 ⟨jb, 0, .none⟩ H (.pointer (some ⟨s, 0, .none⟩)) (by simp; omega)
      simp only [World.cell?, h2] at h1 ⊢; exact h1
    go_upto_region 4 with fail
    clear hbV3 tj3 j0 j1 jf hm3
    generalize w3.setCell ⟨jb, 0, .none⟩ (.pointer (some ⟨s, 0, .none⟩)) = Y at *
    replace tj4 : Y.heap[jb]? = some (.cells #[.pointer (some ⟨s, 0, .none⟩), .slice none 0 0, .int .i64 0, .int .i64 (-1), .int .i64 0] 47 (0, 0)) := tj4
    have lYj : jb < Y.heap.size := (Array.getElem?_eq_some_iff.1 tj4).1
    have lYs : s < Y.heap.size := hm4.lt
    have bA := (Below.refl Y.heap.size Y).alloc (Nat.le_refl _) (.cells (ptsC (List.replicate cn Pt.zero)).toArray 61)
    have hrp : RowP (Y.alloc (.cells (ptsC (List.replicate cn Pt.zero)).toArray 61)) Y.heap.size (List.replicate cn Pt.zero) := heap_alloc_new Y _
    have tj5 := (bA.block _ lYj).trans tj4
    have hm5 := hm4.below bA
    have j1 := rowCells tj5 1
    have jf := rowFree tj5
    obtain ⟨pb, hpb, hpb'⟩ : ∃ pb, Hid (pb = Y.heap.size) ∧ pb = Y.heap.size := ⟨_, Lib.hid rfl, rfl⟩
    rw [← hpb'] at hrp
    have hfin : Hid (Made w ((Y.alloc (.cells (ptsC (List.replicate cn Pt.zero)).toArray 61)).setCell ⟨jb, 1, .none⟩ (.slice (some ⟨Y.heap.size, 0, .none⟩) cn cn)) (.returned (.pointer (some ⟨jb, 0, .none⟩))) JR) := Lib.hid (by
      rw [hJ, ← hpb']
      refine ⟨jb, s, pb, rfl, Below.setCell (hB4.trans (bA.mono hB4.size)) (by show w.heap.size ≤ jb; omega) _, ?_⟩
      refine ⟨?_, ?_, fun _ => ?_, ⟨by omega, by omega⟩, ?_, by omega, by omega, by omega, by simp [Value.ownBlock], by simp [Value.ownBlock]⟩
      · rw [heap_setCell_same _ jb 1 _ _ _ tj5]
        show some (Obj.cells #[.pointer (some ⟨s, 0, .none⟩), .slice (some ⟨pb, 0, .none⟩) cn cn, .int .i64 0, .int .i64 (-1), .int .i64 0] _ _) = _
        unfold pvV
        rw [List.length_replicate, if_neg (by omega)]
      · exact (hm5.base hwS).blocks fun k hk => by
          rcases hk with rfl | hk
          · exact heap_setCell_other _ ⟨jb, 1, .none⟩ k _ (by simp; omega)
          · simp [Value.ownBlock] at hk
      · exact hrp.of_block (heap_setCell_other _ ⟨jb, 1, .none⟩ pb _ (by simp; omega))
      · have := hrp.lt; simpa [World.setCell] using this)
    clear hJ hJR hrp tj4 tj5 hm4 hm5 hB4 bA hpb' bV b1 b2 tj
    go_wp2
    go_ret
    have hf := hfin.out
    rw [World.setCell_alloc_past _ _ _ _ lYj] at hf
    exact hf
end Go.Proofs.Ytclidckjnoafcaa

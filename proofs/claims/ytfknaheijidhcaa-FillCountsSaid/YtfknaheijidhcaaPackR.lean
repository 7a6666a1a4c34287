/- The walks of package pack that read words. -/
import Derived.Test.YtfknaheijidhcaaPackW

import Derived.Test.YtfknaheijidhcaaPlanW

import Derived.Deep.RegionWith

namespace Go.Proofs.Ytfknaheijidhcaa

open Go.RowKit

/-- The kind and the parts of a word. -/
def kindV (x : Int) : Int := x % 16
def partV (x : Int) (i : Nat) : Int := x / (16 * 256 ^ i) % 256
theorem kindV_bd (x : Int) : 0 ≤ kindV x ∧ kindV x ≤ 15 := by unfold kindV; omega
theorem partV_bd (x : Int) (i : Nat) : 0 ≤ partV x i ∧ partV x i ≤ 255 := by unfold partV; omega

theorem and15 (x : Int) (h0 : 0 ≤ x) (h1 : x < 18446744073709551616) : bits .and .u64 x 15 = kindV x := bits_mask .u64 64 (by decide) (fun n a b => u64_wraps n a b) 4 (by decide) x h0 h1
theorem and255 (x : Int) (h0 : 0 ≤ x) (h1 : x < 18446744073709551616) : bits .and .u64 x 255 = x % 256 := bits_mask .u64 64 (by decide) (fun n a b => u64_wraps n a b) 8 (by decide) x h0 h1

set_option maxHeartbeats 400000 in
theorem kind_any (x : Int) (w : World) (h0 : 0 ≤ x) (h1 : x < 18446744073709551616) :
    Calls Try.prog 81 #[.int .u64 x] w fun e w' => e = .returned (.int .i64 (kindV x)) ∧ w' = w := by
  have hb := kindV_bd x
  have ha := and15 x h0 h1
  have hw : IntKind.i64.wrap (kindV x) = kindV x := IntWalk.i64_in _ ⟨by omega, by omega⟩
  go_enter Try.func81, Try.ntmps81
  go_wp2
  all_goals go_ret
  all_goals exact ⟨rfl, rfl⟩

theorem shr_part (x : Int) (i : Nat) : x / 2 ^ (4 + 8 * i) % 256 = partV x i := by
  unfold partV
  rw [Int.pow_add, Int.pow_mul]; rfl

set_option maxHeartbeats 400000 in
theorem part_any (x : Int) (i : Nat) (w : World) (h0 : 0 ≤ x) (h1 : x < 18446744073709551616) (hi : i ≤ 2) :
    Calls Try.prog 82 #[.int .u64 x, .int .i64 i] w fun e w' => e = .returned (.int .i64 (partV x i)) ∧ w' = w := by
  have hb := partV_bd x i
  have hw : IntKind.i64.wrap (partV x i) = partV x i := IntWalk.i64_in _ ⟨by omega, by omega⟩
  have : i = 0 ∨ i = 1 ∨ i = 2 := by omega
  rcases this with rfl | rfl | rfl
  · have ha := and255 (x / 16) (by omega) (by omega)
    have hs : x / 16 % 256 = partV x 0 := shr_part x 0
    rw [hs] at ha
    clear hs
    go_enter Try.func82, Try.ntmps82
    go_wp2
    all_goals go_ret
    all_goals exact ⟨rfl, rfl⟩
  · have ha := and255 (x / 4096) (by omega) (by omega)
    have hs : x / 4096 % 256 = partV x 1 := shr_part x 1
    rw [hs] at ha
    clear hs
    go_enter Try.func82, Try.ntmps82
    go_wp2
    all_goals go_ret
    all_goals exact ⟨rfl, rfl⟩
  · have ha := and255 (x / 1048576) (by omega) (by omega)
    have hs : x / 1048576 % 256 = partV x 2 := shr_part x 2
    rw [hs] at ha
    clear hs
    go_enter Try.func82, Try.ntmps82
    go_wp2
    all_goals go_ret
    all_goals exact ⟨rfl, rfl⟩

/-- May a page's word stand at page 'a'? -/
def fitsB (p c a k x y : Int) : Bool :=
  if k = 1 then decide (x < c) else if k = 2 then decide (x < 4) && decide (y < c) else if k = 3 then decide (1 ≤ x) && decide (x ≤ 8) && decide (x ≤ p - a)
  else if k = 4 then decide (x < a) && decide (a - 8 < x) else true

set_option maxHeartbeats 1000000 in
theorem fits_any (p c m a k x y : Int) (w : World) (hp : 0 ≤ p) (hp2 : p ≤ 64) (ha : 0 ≤ a) (ha2 : a ≤ 64) :
    Calls Try.prog 84 #[.agg #[.int .i64 p, .int .i64 c, .int .i64 m], .int .i64 a, .agg #[.int .i64 k, .int .i64 x, .int .i64 y]] w fun e w' => e = .returned (.bool (fitsB p c a k x y)) ∧ Below w.heap.size w w' := by
  go_enter Try.func84, Try.ntmps84
  go_wp2
  all_goals go_ret
  all_goals refine ⟨ret_bool ?_, by go_grown⟩
  all_goals simp_all [fitsB]
  all_goals omega

theorem pageIx_nonneg {p c m a : Int} (h : 0 ≤ pageIx p c m a) : mayB p c m = true ∧ wi a 0 (p - 1) = true := by
  unfold pageIx at h
  split at h
  · assumption
  · omega
/-- Does a word say something as page a's? -/
def readPageB (p c m a x : Int) : Bool := (pageV (kindV x) (partV x 0) (partV x 1) == x) && decide (0 ≤ pageIx p c m a) && fitsB p c a (kindV x) (partV x 0) (partV x 1)

set_option maxRecDepth 100000 in
set_option maxHeartbeats 1000000 in
theorem readPage_any (p c m a x : Int) (w : World) (h0 : 0 ≤ x) (h1 : x < 18446744073709551616) :
    Calls Try.prog 55 #[.agg #[.int .i64 p, .int .i64 c, .int .i64 m], .int .i64 a, .int .u64 x] w fun e w' => Below w.heap.size w w' ∧
      e = .returned (.tuple #[.agg (if readPageB p c m a x = true then #[.int .i64 (kindV x), .int .i64 (partV x 0), .int .i64 (partV x 1)] else #[.int .i64 0, .int .i64 0, .int .i64 0]), .bool (readPageB p c m a x)]) := by
  have hparts := fun i => part_any x i
  generalize hk : kindV x = k at *
  generalize hA : partV x 0 = A at *
  generalize hB : partV x 1 = B at *
  have hr : readPageB p c m a x = ((pageV k A B == x) && decide (0 ≤ pageIx p c m a) && fitsB p c a k A B) := by rw [readPageB, hk, hA, hB]
  have hkind : ∀ w, Calls Try.prog 81 #[.int .u64 x] w fun e w' => e = .returned (.int .i64 k) ∧ w' = w := fun w => hk ▸ kind_any x w h0 h1
  have hp0 : ∀ w, Calls Try.prog 82 #[.int .u64 x, .int .i64 0] w fun e w' => e = .returned (.int .i64 A) ∧ w' = w := fun w => hA ▸ part_any x 0 w h0 h1 (by omega)
  have hp1 : ∀ w, Calls Try.prog 82 #[.int .u64 x, .int .i64 1] w fun e w' => e = .returned (.int .i64 B) ∧ w' = w := fun w => hB ▸ part_any x 1 w h0 h1 (by omega)
  clear hparts hk hA hB
  cases hrb : readPageB p c m a x
  all_goals
    rw [hrb] at hr
    replace hr := hr.symm
    first | rw [if_pos rfl] | rw [if_neg Bool.false_ne_true]
    clear hrb
    go_enter Try.func55, Try.ntmps55
    go_upto_region 2 with (first
      | (go_at_call 81; refine (hkind _).mono ?_; rintro e w1 ⟨rfl, rfl⟩)
      | (go_at_call_of 82 (Value.int .i64 0); refine (hp0 _).mono ?_; rintro e w1 ⟨rfl, rfl⟩)
      | (go_at_call_of 82 (Value.int .i64 1); refine (hp1 _).mono ?_; rintro e w1 ⟨rfl, rfl⟩))
    clear hkind hp0 hp1
    obtain ⟨bS, bR, bP, hsz, hbW⟩ := three_blocks w (.cells #[.int .i64 p, .int .i64 c, .int .i64 m] 23) (.cells #[.int .i64 0, .int .i64 0, .int .i64 0] 79) (.cells #[.int .i64 k, .int .i64 A, .int .i64 B] 79)
    generalize (((w.alloc (.cells #[.int .i64 p, .int .i64 c, .int .i64 m] 23)).alloc (.cells #[.int .i64 0, .int .i64 0, .int .i64 0] 79)).alloc (.cells #[.int .i64 k, .int .i64 A, .int .i64 B] 79)) = W at *
    generalize hH : w.heap.size = H at *
    have cS := rowCells bS
    have cR := rowCells bR
    have fR := rowFree bR
    have cP := rowCells bP
    have l0 : H < W.heap.size := by omega
    have l1 : H + 1 < W.heap.size := by omega
    have l2 : H + 1 + 1 < W.heap.size := by omega
    have hb := Below.refl W.heap.size W
    clear bS bR bP
  · by_cases h2 : pageV k A B = x
    · have h2' : (pageV k A B != x) = false := by simpa using h2
      by_cases h3 : 0 ≤ pageIx p c m a
      · obtain ⟨h4, h5⟩ := pageIx_nonneg h3
        have h4' := mayB_iff.1 h4
        have h5' := wi_iff.1 h5
        have h6 : fitsB p c a k A B = false := by simpa [h2, h3] using hr
        clear hr h2
        go_wp2_with (first
          | (go_at_call 83; refine (putPage_any _ _ _ _).mono ?_; rintro e w1 ⟨rfl, hb1⟩; have hb := belowTrans hb hb1; have hc := bcell hb; have hf := bfree hb)
          | (go_at_call 56; refine (planPage_any _ _ _ _ _).mono ?_; rintro e w2 ⟨rfl, hb1⟩; have hb := belowTrans hb hb1; have hc := bcell hb; have hf := bfree hb)
          | (go_at_call 84; refine (fits_any _ _ _ _ _ _ _ _ (by omega) (by omega) (by omega) (by omega)).mono ?_; rintro e w3 ⟨rfl, hb1⟩; have hb := belowTrans hb hb1; have hc := bcell hb; have hf := bfree hb))
        have hbb : Below H w w3 := hbW.trans (hb.mono (by omega))
        have hbb0 := hbb
        rw [← hH] at hbb
        refine bodyPost_ret (v := .tuple #[.agg #[.int .i64 0, .int .i64 0, .int .i64 0], .bool false]) (by simp [results, Try.results55, go_sem, hc, hf, cR, fR, l1]) rfl ⟨?_, rfl⟩
        go_grown
      · have h3' : pageIx p c m a < 0 := by omega
        clear hr h2
        go_wp2_with (first
          | (go_at_call 83; refine (putPage_any _ _ _ _).mono ?_; rintro e w1 ⟨rfl, hb1⟩; have hb := belowTrans hb hb1; have hc := bcell hb; have hf := bfree hb)
          | (go_at_call 56; refine (planPage_any _ _ _ _ _).mono ?_; rintro e w2 ⟨rfl, hb1⟩; have hb := belowTrans hb hb1; have hc := bcell hb; have hf := bfree hb))
        have hbb : Below H w w2 := hbW.trans (hb.mono (by omega))
        have hbb0 := hbb
        rw [← hH] at hbb
        refine bodyPost_ret (v := .tuple #[.agg #[.int .i64 0, .int .i64 0, .int .i64 0], .bool false]) (by simp [results, Try.results55, go_sem, hc, hf, cR, fR, l1]) rfl ⟨?_, rfl⟩
        go_grown
    · have h2' : (pageV k A B != x) = true := by simpa using h2
      clear hr
      go_wp2_with (first
        | (go_at_call 83; refine (putPage_any _ _ _ _).mono ?_; rintro e w1 ⟨rfl, hb1⟩; have hb := belowTrans hb hb1; have hc := bcell hb; have hf := bfree hb))
      have hbb : Below H w w1 := hbW.trans (hb.mono (by omega))
      have hbb0 := hbb
      rw [← hH] at hbb
      refine bodyPost_ret (v := .tuple #[.agg #[.int .i64 0, .int .i64 0, .int .i64 0], .bool false]) (by simp [results, Try.results55, go_sem, hc, hf, cR, fR, l1]) rfl ⟨?_, rfl⟩
      go_grown
  · have hr' := hr
    simp only [Bool.and_eq_true, beq_iff_eq, decide_eq_true_eq] at hr'
    obtain ⟨⟨h2, h3⟩, h6⟩ := hr'
    have h2' : (pageV k A B != x) = false := by simpa using h2
    obtain ⟨h4, h5⟩ := pageIx_nonneg h3
    have h4' := mayB_iff.1 h4
    have h5' := wi_iff.1 h5
    clear hr h2
    go_wp2_with (first
      | (go_at_call 83; refine (putPage_any _ _ _ _).mono ?_; rintro e w1 ⟨rfl, hb1⟩; have hb := belowTrans hb hb1; have hc := bcell hb; have hf := bfree hb)
      | (go_at_call 56; refine (planPage_any _ _ _ _ _).mono ?_; rintro e w2 ⟨rfl, hb1⟩; have hb := belowTrans hb hb1; have hc := bcell hb; have hf := bfree hb)
      | (go_at_call 84; refine (fits_any _ _ _ _ _ _ _ _ (by omega) (by omega) (by omega) (by omega)).mono ?_; rintro e w3 ⟨rfl, hb1⟩; have hb := belowTrans hb hb1; have hc := bcell hb; have hf := bfree hb))
    have hbb : Below H w w3 := hbW.trans (hb.mono (by omega))
    have hbb0 := hbb
    rw [← hH] at hbb
    refine bodyPost_ret (v := .tuple #[.agg #[.int .i64 k, .int .i64 A, .int .i64 B], .bool true]) (by simp [results, Try.results55, go_sem, hc, hf, cR, fR, l1]) rfl ⟨?_, rfl⟩
    go_grown

/-- Does a word say an entry? -/
def readEntryB (p c m x : Int) : Bool := (putV 1 [partV x 0, partV x 1, partV x 2] == x) && decide (0 ≤ pageIx p c m (partV x 0)) && decide (partV x 1 < slotsV (partV x 2))

set_option maxRecDepth 100000 in
set_option maxHeartbeats 1000000 in
theorem readEntry_any (p c m x : Int) (w : World) (h0 : 0 ≤ x) (h1 : x < 18446744073709551616) :
    Calls Try.prog 91 #[.agg #[.int .i64 p, .int .i64 c, .int .i64 m], .int .u64 x] w fun e w' => Below w.heap.size w w' ∧
      e = .returned (.tuple #[.agg (if readEntryB p c m x = true then #[.int .i64 (partV x 0), .int .i64 (partV x 1), .int .i64 (partV x 2)] else #[.int .i64 0, .int .i64 0, .int .i64 0]), .bool (readEntryB p c m x)]) := by
  have hparts := fun i => part_any x i
  generalize hA : partV x 0 = A at *
  generalize hB : partV x 1 = B at *
  generalize hC : partV x 2 = C at *
  have hr : readEntryB p c m x = ((putV 1 [A, B, C] == x) && decide (0 ≤ pageIx p c m A) && decide (B < slotsV C)) := by rw [readEntryB, hA, hB, hC]
  have hp0 : ∀ w, Calls Try.prog 82 #[.int .u64 x, .int .i64 0] w fun e w' => e = .returned (.int .i64 A) ∧ w' = w := fun w => hA ▸ part_any x 0 w h0 h1 (by omega)
  have hp1 : ∀ w, Calls Try.prog 82 #[.int .u64 x, .int .i64 1] w fun e w' => e = .returned (.int .i64 B) ∧ w' = w := fun w => hB ▸ part_any x 1 w h0 h1 (by omega)
  have hp2 : ∀ w, Calls Try.prog 82 #[.int .u64 x, .int .i64 2] w fun e w' => e = .returned (.int .i64 C) ∧ w' = w := fun w => hC ▸ part_any x 2 w h0 h1 (by omega)
  clear hparts hA hB hC
  cases hrb : readEntryB p c m x
  all_goals
    rw [hrb] at hr
    replace hr := hr.symm
    first | rw [if_pos rfl] | rw [if_neg Bool.false_ne_true]
    clear hrb
    go_enter Try.func91, Try.ntmps91
    go_upto_region 2 with (first
      | (go_at_call_of 82 (Value.int .i64 0); refine (hp0 _).mono ?_; rintro e w1 ⟨rfl, rfl⟩)
      | (go_at_call_of 82 (Value.int .i64 1); refine (hp1 _).mono ?_; rintro e w1 ⟨rfl, rfl⟩)
      | (go_at_call_of 82 (Value.int .i64 2); refine (hp2 _).mono ?_; rintro e w1 ⟨rfl, rfl⟩))
    clear hp0 hp1 hp2
    obtain ⟨bS, bR, bP, hsz, hbW⟩ := three_blocks w (.cells #[.int .i64 p, .int .i64 c, .int .i64 m] 23) (.cells #[.int .i64 0, .int .i64 0, .int .i64 0] 107) (.cells #[.int .i64 A, .int .i64 B, .int .i64 C] 107)
    generalize (((w.alloc (.cells #[.int .i64 p, .int .i64 c, .int .i64 m] 23)).alloc (.cells #[.int .i64 0, .int .i64 0, .int .i64 0] 107)).alloc (.cells #[.int .i64 A, .int .i64 B, .int .i64 C] 107)) = W at *
    generalize hH : w.heap.size = H at *
    have cS := rowCells bS
    have cR := rowCells bR
    have fR := rowFree bR
    have cP := rowCells bP
    have l0 : H < W.heap.size := by omega
    have l1 : H + 1 < W.heap.size := by omega
    have l2 : H + 1 + 1 < W.heap.size := by omega
    clear bS bR bP
  · by_cases h2 : putV 1 [A, B, C] = x
    · have h2' : (putV 1 [A, B, C] != x) = false := by simpa using h2
      by_cases h3 : 0 ≤ pageIx p c m A
      · have h3' : decide (pageIx p c m A < 0) = false := decide_eq_false (by omega)
        have h6 : B ≥ slotsV C := by simpa [h2, h3] using hr
        clear hr h2
        refine wp_region_ext (by kernel_rfl) (by kernel_rfl) ?_
        repeat (go_big_quiet_step ((first
          | (go_at_call 95; exact ext_of (putEntry_any _ _ _ _))
          | (go_at_call 56; exact ext_of (planPage_any _ _ _ _ _))
          | (go_at_call 57; exact ext_same (slots_any _ _)))))
        refine wpQuiet_nil ?_
        rintro _ ⟨e, rfl⟩
        go_wp2
        have hc := bcell e.below
        have hf := bfree e.below
        have hbb : Below H w e.w := hbW.trans (e.below.mono (by omega))
        have hbb0 := hbb
        rw [← hH] at hbb
        refine bodyPost_ret (v := .tuple #[.agg #[.int .i64 0, .int .i64 0, .int .i64 0], .bool false]) (by simp [results, Try.results91, go_sem, hc, hf, cR, fR, l1]) rfl ⟨?_, rfl⟩
        go_grown
      · have h3' : decide (pageIx p c m A < 0) = true := decide_eq_true (by omega)
        clear hr h2
        refine wp_region_ext (by kernel_rfl) (by kernel_rfl) ?_
        repeat (go_big_quiet_step ((first
          | (go_at_call 95; exact ext_of (putEntry_any _ _ _ _))
          | (go_at_call 56; exact ext_of (planPage_any _ _ _ _ _))
          | (go_at_call 57; exact ext_same (slots_any _ _)))))
        refine wpQuiet_nil ?_
        rintro _ ⟨e, rfl⟩
        go_wp2
        have hc := bcell e.below
        have hf := bfree e.below
        have hbb : Below H w e.w := hbW.trans (e.below.mono (by omega))
        have hbb0 := hbb
        rw [← hH] at hbb
        refine bodyPost_ret (v := .tuple #[.agg #[.int .i64 0, .int .i64 0, .int .i64 0], .bool false]) (by simp [results, Try.results91, go_sem, hc, hf, cR, fR, l1]) rfl ⟨?_, rfl⟩
        go_grown
    · have h2' : (putV 1 [A, B, C] != x) = true := by simpa using h2
      clear hr
      refine wp_region_ext (by kernel_rfl) (by kernel_rfl) ?_
      repeat (go_big_quiet_step ((first
        | (go_at_call 95; exact ext_of (putEntry_any _ _ _ _))
        | (go_at_call 56; exact ext_of (planPage_any _ _ _ _ _))
        | (go_at_call 57; exact ext_same (slots_any _ _)))))
      refine wpQuiet_nil ?_
      rintro _ ⟨e, rfl⟩
      go_wp2
      have hc := bcell e.below
      have hf := bfree e.below
      have hbb : Below H w e.w := hbW.trans (e.below.mono (by omega))
      have hbb0 := hbb
      rw [← hH] at hbb
      refine bodyPost_ret (v := .tuple #[.agg #[.int .i64 0, .int .i64 0, .int .i64 0], .bool false]) (by simp [results, Try.results91, go_sem, hc, hf, cR, fR, l1]) rfl ⟨?_, rfl⟩
      go_grown
  · simp only [Bool.and_eq_true, beq_iff_eq, decide_eq_true_eq] at hr
    obtain ⟨⟨h2, h3⟩, h6⟩ := hr
    have h2' : (putV 1 [A, B, C] != x) = false := by simpa using h2
    have h3' : decide (pageIx p c m A < 0) = false := decide_eq_false (by omega)
    have h6' : ¬ B ≥ slotsV C := by omega
    clear h2
    refine wp_region_ext (by kernel_rfl) (by kernel_rfl) ?_
    repeat (go_big_quiet_step ((first
      | (go_at_call 95; exact ext_of (putEntry_any _ _ _ _))
      | (go_at_call 56; exact ext_of (planPage_any _ _ _ _ _))
      | (go_at_call 57; exact ext_same (slots_any _ _)))))
    refine wpQuiet_nil ?_
    rintro _ ⟨e, rfl⟩
    go_wp2
    have hc := bcell e.below
    have hf := bfree e.below
    have hbb : Below H w e.w := hbW.trans (e.below.mono (by omega))
    have hbb0 := hbb
    rw [← hH] at hbb
    refine bodyPost_ret (v := .tuple #[.agg #[.int .i64 A, .int .i64 B, .int .i64 C], .bool true]) (by simp [results, Try.results91, go_sem, hc, hf, cR, fR, l1]) rfl ⟨?_, rfl⟩
    go_grown

/-- The way that a slot's word says. -/
def readSlotB (x : Int) : Bool := slotV (kindV x) (partV x 0) == x

set_option maxRecDepth 100000 in
set_option maxHeartbeats 1000000 in
theorem readSlot_any (x : Int) (w : World) (h0 : 0 ≤ x) (h1 : x < 18446744073709551616) :
    Calls Try.prog 58 #[.int .u64 x] w fun e w' => Below w.heap.size w w' ∧
      e = .returned (.agg (if readSlotB x = true then #[.int .i64 (kindV x), .int .i64 (partV x 0)] else #[.int .i64 0, .int .i64 0])) := by
  generalize hk : kindV x = k at *
  generalize hA : partV x 0 = A at *
  have hr : readSlotB x = (slotV k A == x) := by rw [readSlotB, hk, hA]
  have hkind : ∀ w, Calls Try.prog 81 #[.int .u64 x] w fun e w' => e = .returned (.int .i64 k) ∧ w' = w := fun w => hk ▸ kind_any x w h0 h1
  have hp0 : ∀ w, Calls Try.prog 82 #[.int .u64 x, .int .i64 0] w fun e w' => e = .returned (.int .i64 A) ∧ w' = w := fun w => hA ▸ part_any x 0 w h0 h1 (by omega)
  clear hk hA
  cases hrb : readSlotB x
  all_goals
    rw [hrb] at hr
    replace hr := hr.symm
    first | rw [if_pos rfl] | rw [if_neg Bool.false_ne_true]
    clear hrb
    go_enter Try.func58, Try.ntmps58
    go_upto_region 2 with (first
      | (go_at_call 81; refine (hkind _).mono ?_; rintro e w1 ⟨rfl, rfl⟩)
      | (go_at_call 82; refine (hp0 _).mono ?_; rintro e w1 ⟨rfl, rfl⟩))
    clear hkind hp0
    obtain ⟨bR, bP, hsz, hbW⟩ := two_blocks w (.cells #[.int .i64 0, .int .i64 0] 87) (.cells #[.int .i64 k, .int .i64 A] 87)
    generalize ((w.alloc (.cells #[.int .i64 0, .int .i64 0] 87)).alloc (.cells #[.int .i64 k, .int .i64 A] 87)) = W at *
    generalize hH : w.heap.size = H at *
    have cR := rowCells bR
    have fR := rowFree bR
    have cP := rowCells bP
    have l0 : H < W.heap.size := by omega
    have l1 : H + 1 < W.heap.size := by omega
    clear bR bP
  · have h2' : (slotV k A != x) = true := by simpa using hr
    clear hr
    go_wp2_with (go_at_call 85; refine (putSlot_any _ _ _).mono ?_; rintro e w1 ⟨rfl, hb⟩; have hc := bcell hb; have hf := bfree hb)
    have hbb : Below H w w1 := hbW.trans (hb.mono (by omega))
    have hbb0 := hbb
    rw [← hH] at hbb
    refine bodyPost_ret (v := .agg #[.int .i64 0, .int .i64 0]) (by simp [results, Try.results58, go_sem, hc, hf, cR, fR, l0]) rfl ⟨?_, rfl⟩
    go_grown
  · have h2' : (slotV k A != x) = false := by simpa using hr
    clear hr
    go_wp2_with (go_at_call 85; refine (putSlot_any _ _ _).mono ?_; rintro e w1 ⟨rfl, hb⟩; have hc := bcell hb; have hf := bfree hb)
    have hbb : Below H w w1 := hbW.trans (hb.mono (by omega))
    have hbb0 := hbb
    rw [← hH] at hbb
    refine bodyPost_ret (v := .agg #[.int .i64 k, .int .i64 A]) (by simp [results, Try.results58, go_sem, hc, hf, cR, fR, l0]) rfl ⟨?_, rfl⟩
    go_grown
end Go.Proofs.Ytfknaheijidhcaa

/- Texts bound together: PackR PlnP MchP. -/
import Derived.Deep.RegionWith

import Derived.Test.YtcgakbgmdabnkaaGreatBn1

set_option linter.all false
/- The walks of package pack that read words. -/
namespace Go.Proofs.YtcgakbgmdabnkaaGreat

open Go.RowKit

/-- The kind and the parts of a word. -/
def kindV (x : Int) : Int := x % 16
def partV (x : Int) (i : Nat) : Int := x / (16 * 256 ^ i) % 256
theorem kindV_bd (x : Int) : 0 ≤ kindV x ∧ kindV x ≤ 15 := by unfold kindV; omega
theorem partV_bd (x : Int) (i : Nat) : 0 ≤ partV x i ∧ partV x i ≤ 255 := by unfold partV; omega

theorem and15 (x : Int) (h0 : 0 ≤ x) (h1 : x < 18446744073709551616) : bits .and .u64 x 15 = kindV x := bits_mask .u64 64 (by decide) (fun n a b => u64_wraps n a b) 4 (by decide) x h0 h1
theorem and255 (x : Int) (h0 : 0 ≤ x) (h1 : x < 18446744073709551616) : bits .and .u64 x 255 = x % 256 := bits_mask .u64 64 (by decide) (fun n a b => u64_wraps n a b) 8 (by decide) x h0 h1

set_option maxHeartbeats 400000 in
theorem kind_any (x : Int) (w : World) (h0 : 0 ≤ x) (h1 : x < 18446744073709551616) :
    Calls Tryz.prog 238 #[.int .u64 x] w fun e w' => e = .returned (.int .i64 (kindV x)) ∧ w' = w := by
  have hb := kindV_bd x
  have ha := and15 x h0 h1
  have hw : IntKind.i64.wrap (kindV x) = kindV x := IntWalk.i64_in _ ⟨by omega, by omega⟩
  go_enter Tryz.func238, Tryz.ntmps238
  go_wp2
  all_goals go_ret
  all_goals exact ⟨rfl, rfl⟩

theorem shr_part (x : Int) (i : Nat) : x / 2 ^ (4 + 8 * i) % 256 = partV x i := by
  unfold partV
  rw [Int.pow_add, Int.pow_mul]; rfl

set_option maxHeartbeats 400000 in
theorem part_any (x : Int) (i : Nat) (w : World) (h0 : 0 ≤ x) (h1 : x < 18446744073709551616) (hi : i ≤ 2) :
    Calls Tryz.prog 239 #[.int .u64 x, .int .i64 i] w fun e w' => e = .returned (.int .i64 (partV x i)) ∧ w' = w := by
  have hb := partV_bd x i
  have hw : IntKind.i64.wrap (partV x i) = partV x i := IntWalk.i64_in _ ⟨by omega, by omega⟩
  have : i = 0 ∨ i = 1 ∨ i = 2 := by omega
  rcases this with rfl | rfl | rfl
  · have ha := and255 (x / 16) (by omega) (by omega)
    have hs : x / 16 % 256 = partV x 0 := shr_part x 0
    rw [hs] at ha
    clear hs
    go_enter Tryz.func239, Tryz.ntmps239
    go_wp2
    all_goals go_ret
    all_goals exact ⟨rfl, rfl⟩
  · have ha := and255 (x / 4096) (by omega) (by omega)
    have hs : x / 4096 % 256 = partV x 1 := shr_part x 1
    rw [hs] at ha
    clear hs
    go_enter Tryz.func239, Tryz.ntmps239
    go_wp2
    all_goals go_ret
    all_goals exact ⟨rfl, rfl⟩
  · have ha := and255 (x / 1048576) (by omega) (by omega)
    have hs : x / 1048576 % 256 = partV x 2 := shr_part x 2
    rw [hs] at ha
    clear hs
    go_enter Tryz.func239, Tryz.ntmps239
    go_wp2
    all_goals go_ret
    all_goals exact ⟨rfl, rfl⟩

/-- May a page's word stand at page 'a'? -/
def fitsB (p c a k x y : Int) : Bool :=
  if k = 1 then decide (x < c) else if k = 2 then decide (x < 4) && decide (y < c) else if k = 3 then decide (1 ≤ x) && decide (x ≤ 8) && decide (x ≤ p - a)
  else if k = 4 then decide (x < a) && decide (a - 8 < x) else true

set_option maxHeartbeats 1000000 in
theorem fits_any (p c m a k x y : Int) (w : World) (hp : 0 ≤ p) (hp2 : p ≤ 64) (ha : 0 ≤ a) (ha2 : a ≤ 64) :
    Calls Tryz.prog 240 #[.agg #[.int .i64 p, .int .i64 c, .int .i64 m], .int .i64 a, .agg #[.int .i64 k, .int .i64 x, .int .i64 y]] w fun e w' => e = .returned (.bool (fitsB p c a k x y)) ∧ Below w.heap.size w w' := by
  go_enter Tryz.func240, Tryz.ntmps240
  go_wp2
  all_goals go_ret
  all_goals refine ⟨ret_bool ?_, by go_grown⟩
  all_goals simp_all [fitsB]
  all_goals omega

theorem pageIx_nonneg {p c m a : Int} (h : 0 ≤ pageIx p c m a) : mayB p c m = true ∧ wi a 0 (p - 1) = true := by
  unfold pageIx at h
  split at h
  · assumption
  · omega
/-- Does a word say something as page a's? -/
def readPageB (p c m a x : Int) : Bool := (pageV (kindV x) (partV x 0) (partV x 1) == x) && decide (0 ≤ pageIx p c m a) && fitsB p c a (kindV x) (partV x 0) (partV x 1)

set_option maxRecDepth 100000 in
set_option maxHeartbeats 1000000 in
theorem readPage_any (p c m a x : Int) (w : World) (h0 : 0 ≤ x) (h1 : x < 18446744073709551616) :
    Calls Tryz.prog 223 #[.agg #[.int .i64 p, .int .i64 c, .int .i64 m], .int .i64 a, .int .u64 x] w fun e w' => Below w.heap.size w w' ∧
      e = .returned (.tuple #[.agg (if readPageB p c m a x = true then #[.int .i64 (kindV x), .int .i64 (partV x 0), .int .i64 (partV x 1)] else #[.int .i64 0, .int .i64 0, .int .i64 0]), .bool (readPageB p c m a x)]) := by
  have hparts := fun i => part_any x i
  generalize hk : kindV x = k at *
  generalize hA : partV x 0 = A at *
  generalize hB : partV x 1 = B at *
  have hr : readPageB p c m a x = ((pageV k A B == x) && decide (0 ≤ pageIx p c m a) && fitsB p c a k A B) := by rw [readPageB, hk, hA, hB]
  have hkind : ∀ w, Calls Tryz.prog 238 #[.int .u64 x] w fun e w' => e = .returned (.int .i64 k) ∧ w' = w := fun w => hk ▸ kind_any x w h0 h1
  have hp0 : ∀ w, Calls Tryz.prog 239 #[.int .u64 x, .int .i64 0] w fun e w' => e = .returned (.int .i64 A) ∧ w' = w := fun w => hA ▸ part_any x 0 w h0 h1 (by omega)
  have hp1 : ∀ w, Calls Tryz.prog 239 #[.int .u64 x, .int .i64 1] w fun e w' => e = .returned (.int .i64 B) ∧ w' = w := fun w => hB ▸ part_any x 1 w h0 h1 (by omega)
  clear hparts hk hA hB
  cases hrb : readPageB p c m a x
  all_goals
    rw [hrb] at hr
    replace hr := hr.symm
    first | rw [if_pos rfl] | rw [if_neg Bool.false_ne_true]
    clear hrb
    go_enter Tryz.func223, Tryz.ntmps223
    go_upto_region 2 with (first
      | (go_at_call 238; refine (hkind _).mono ?_; rintro e w1 ⟨rfl, rfl⟩)
      | (go_at_call_of 239 (Value.int .i64 0); refine (hp0 _).mono ?_; rintro e w1 ⟨rfl, rfl⟩)
      | (go_at_call_of 239 (Value.int .i64 1); refine (hp1 _).mono ?_; rintro e w1 ⟨rfl, rfl⟩))
    clear hkind hp0 hp1
    obtain ⟨bS, bR, bP, hsz, hbW⟩ := three_blocks w (.cells #[.int .i64 p, .int .i64 c, .int .i64 m] 23) (.cells #[.int .i64 0, .int .i64 0, .int .i64 0] 234) (.cells #[.int .i64 k, .int .i64 A, .int .i64 B] 234)
    generalize (((w.alloc (.cells #[.int .i64 p, .int .i64 c, .int .i64 m] 23)).alloc (.cells #[.int .i64 0, .int .i64 0, .int .i64 0] 234)).alloc (.cells #[.int .i64 k, .int .i64 A, .int .i64 B] 234)) = W at *
    generalize hH : w.heap.size = H at *
    have cS := rowCells bS
    have cR := rowCells bR
    have fR := rowFree bR
    have cP := rowCells bP
    have l0 : H < W.heap.size := by omega
    have l1 : H + 1 < W.heap.size := by omega
    have l2 : H + 1 + 1 < W.heap.size := by omega
    have hb := Below.refl W.heap.size W
    clear bS bR bP
  · by_cases h2 : pageV k A B = x
    · have h2' : (pageV k A B != x) = false := by simpa using h2
      by_cases h3 : 0 ≤ pageIx p c m a
      · obtain ⟨h4, h5⟩ := pageIx_nonneg h3
        have h4' := mayB_iff.1 h4
        have h5' := wi_iff.1 h5
        have h6 : fitsB p c a k A B = false := by simpa [h2, h3] using hr
        clear hr h2
        go_wp2_with (first
          | (go_at_call 220; refine (putPage_any _ _ _ _).mono ?_; rintro e w1 ⟨rfl, hb1⟩; have hb := belowTrans hb hb1; have hc := bcell hb; have hf := bfree hb)
          | (go_at_call 160; refine (planPage_any _ _ _ _ _).mono ?_; rintro e w2 ⟨rfl, hb1⟩; have hb := belowTrans hb hb1; have hc := bcell hb; have hf := bfree hb)
          | (go_at_call 240; refine (fits_any _ _ _ _ _ _ _ _ (by omega) (by omega) (by omega) (by omega)).mono ?_; rintro e w3 ⟨rfl, hb1⟩; have hb := belowTrans hb hb1; have hc := bcell hb; have hf := bfree hb))
        have hbb : Below H w w3 := hbW.trans (hb.mono (by omega))
        have hbb0 := hbb
        rw [← hH] at hbb
        refine bodyPost_ret (v := .tuple #[.agg #[.int .i64 0, .int .i64 0, .int .i64 0], .bool false]) (by simp [results, Tryz.results223, go_sem, hc, hf, cR, fR, l1]) rfl ⟨?_, rfl⟩
        go_grown
      · have h3' : pageIx p c m a < 0 := by omega
        clear hr h2
        go_wp2_with (first
          | (go_at_call 220; refine (putPage_any _ _ _ _).mono ?_; rintro e w1 ⟨rfl, hb1⟩; have hb := belowTrans hb hb1; have hc := bcell hb; have hf := bfree hb)
          | (go_at_call 160; refine (planPage_any _ _ _ _ _).mono ?_; rintro e w2 ⟨rfl, hb1⟩; have hb := belowTrans hb hb1; have hc := bcell hb; have hf := bfree hb))
        have hbb : Below H w w2 := hbW.trans (hb.mono (by omega))
        have hbb0 := hbb
        rw [← hH] at hbb
        refine bodyPost_ret (v := .tuple #[.agg #[.int .i64 0, .int .i64 0, .int .i64 0], .bool false]) (by simp [results, Tryz.results223, go_sem, hc, hf, cR, fR, l1]) rfl ⟨?_, rfl⟩
        go_grown
    · have h2' : (pageV k A B != x) = true := by simpa using h2
      clear hr
      go_wp2_with (first
        | (go_at_call 220; refine (putPage_any _ _ _ _).mono ?_; rintro e w1 ⟨rfl, hb1⟩; have hb := belowTrans hb hb1; have hc := bcell hb; have hf := bfree hb))
      have hbb : Below H w w1 := hbW.trans (hb.mono (by omega))
      have hbb0 := hbb
      rw [← hH] at hbb
      refine bodyPost_ret (v := .tuple #[.agg #[.int .i64 0, .int .i64 0, .int .i64 0], .bool false]) (by simp [results, Tryz.results223, go_sem, hc, hf, cR, fR, l1]) rfl ⟨?_, rfl⟩
      go_grown
  · have hr' := hr
    simp only [Bool.and_eq_true, beq_iff_eq, decide_eq_true_eq] at hr'
    obtain ⟨⟨h2, h3⟩, h6⟩ := hr'
    have h2' : (pageV k A B != x) = false := by simpa using h2
    obtain ⟨h4, h5⟩ := pageIx_nonneg h3
    have h4' := mayB_iff.1 h4
    have h5' := wi_iff.1 h5
    clear hr h2
    go_wp2_with (first
      | (go_at_call 220; refine (putPage_any _ _ _ _).mono ?_; rintro e w1 ⟨rfl, hb1⟩; have hb := belowTrans hb hb1; have hc := bcell hb; have hf := bfree hb)
      | (go_at_call 160; refine (planPage_any _ _ _ _ _).mono ?_; rintro e w2 ⟨rfl, hb1⟩; have hb := belowTrans hb hb1; have hc := bcell hb; have hf := bfree hb)
      | (go_at_call 240; refine (fits_any _ _ _ _ _ _ _ _ (by omega) (by omega) (by omega) (by omega)).mono ?_; rintro e w3 ⟨rfl, hb1⟩; have hb := belowTrans hb hb1; have hc := bcell hb; have hf := bfree hb))
    have hbb : Below H w w3 := hbW.trans (hb.mono (by omega))
    have hbb0 := hbb
    rw [← hH] at hbb
    refine bodyPost_ret (v := .tuple #[.agg #[.int .i64 k, .int .i64 A, .int .i64 B], .bool true]) (by simp [results, Tryz.results223, go_sem, hc, hf, cR, fR, l1]) rfl ⟨?_, rfl⟩
    go_grown

/-- Does a word say an entry? -/
def readEntryB (p c m x : Int) : Bool := (putV 1 [partV x 0, partV x 1, partV x 2] == x) && decide (0 ≤ pageIx p c m (partV x 0)) && decide (partV x 1 < slotsV (partV x 2))

set_option maxRecDepth 100000 in
set_option maxHeartbeats 1000000 in
theorem readEntry_any (p c m x : Int) (w : World) (h0 : 0 ≤ x) (h1 : x < 18446744073709551616) :
    Calls Tryz.prog 282 #[.agg #[.int .i64 p, .int .i64 c, .int .i64 m], .int .u64 x] w fun e w' => Below w.heap.size w w' ∧
      e = .returned (.tuple #[.agg (if readEntryB p c m x = true then #[.int .i64 (partV x 0), .int .i64 (partV x 1), .int .i64 (partV x 2)] else #[.int .i64 0, .int .i64 0, .int .i64 0]), .bool (readEntryB p c m x)]) := by
  have hparts := fun i => part_any x i
  generalize hA : partV x 0 = A at *
  generalize hB : partV x 1 = B at *
  generalize hC : partV x 2 = C at *
  have hr : readEntryB p c m x = ((putV 1 [A, B, C] == x) && decide (0 ≤ pageIx p c m A) && decide (B < slotsV C)) := by rw [readEntryB, hA, hB, hC]
  have hp0 : ∀ w, Calls Tryz.prog 239 #[.int .u64 x, .int .i64 0] w fun e w' => e = .returned (.int .i64 A) ∧ w' = w := fun w => hA ▸ part_any x 0 w h0 h1 (by omega)
  have hp1 : ∀ w, Calls Tryz.prog 239 #[.int .u64 x, .int .i64 1] w fun e w' => e = .returned (.int .i64 B) ∧ w' = w := fun w => hB ▸ part_any x 1 w h0 h1 (by omega)
  have hp2 : ∀ w, Calls Tryz.prog 239 #[.int .u64 x, .int .i64 2] w fun e w' => e = .returned (.int .i64 C) ∧ w' = w := fun w => hC ▸ part_any x 2 w h0 h1 (by omega)
  clear hparts hA hB hC
  cases hrb : readEntryB p c m x
  all_goals
    rw [hrb] at hr
    replace hr := hr.symm
    first | rw [if_pos rfl] | rw [if_neg Bool.false_ne_true]
    clear hrb
    go_enter Tryz.func282, Tryz.ntmps282
    go_upto_region 2 with (first
      | (go_at_call_of 239 (Value.int .i64 0); refine (hp0 _).mono ?_; rintro e w1 ⟨rfl, rfl⟩)
      | (go_at_call_of 239 (Value.int .i64 1); refine (hp1 _).mono ?_; rintro e w1 ⟨rfl, rfl⟩)
      | (go_at_call_of 239 (Value.int .i64 2); refine (hp2 _).mono ?_; rintro e w1 ⟨rfl, rfl⟩))
    clear hp0 hp1 hp2
    obtain ⟨bS, bR, bP, hsz, hbW⟩ := three_blocks w (.cells #[.int .i64 p, .int .i64 c, .int .i64 m] 23) (.cells #[.int .i64 0, .int .i64 0, .int .i64 0] 263) (.cells #[.int .i64 A, .int .i64 B, .int .i64 C] 263)
    generalize (((w.alloc (.cells #[.int .i64 p, .int .i64 c, .int .i64 m] 23)).alloc (.cells #[.int .i64 0, .int .i64 0, .int .i64 0] 263)).alloc (.cells #[.int .i64 A, .int .i64 B, .int .i64 C] 263)) = W at *
    generalize hH : w.heap.size = H at *
    have cS := rowCells bS
    have cR := rowCells bR
    have fR := rowFree bR
    have cP := rowCells bP
    have l0 : H < W.heap.size := by omega
    have l1 : H + 1 < W.heap.size := by omega
    have l2 : H + 1 + 1 < W.heap.size := by omega
    clear bS bR bP
  · by_cases h2 : putV 1 [A, B, C] = x
    · have h2' : (putV 1 [A, B, C] != x) = false := by simpa using h2
      by_cases h3 : 0 ≤ pageIx p c m A
      · have h3' : decide (pageIx p c m A < 0) = false := decide_eq_false (by omega)
        have h6 : B ≥ slotsV C := by simpa [h2, h3] using hr
        clear hr h2
        refine wp_region_ext (by kernel_rfl) (by kernel_rfl) ?_
        repeat (go_big_quiet_step ((first
          | (go_at_call 251; exact ext_of (putEntry_any _ _ _ _))
          | (go_at_call 160; exact ext_of (planPage_any _ _ _ _ _))
          | (go_at_call 159; exact ext_same (slots_any _ _)))))
        refine wpQuiet_nil ?_
        rintro _ ⟨e, rfl⟩
        go_wp2
        have hc := bcell e.below
        have hf := bfree e.below
        have hbb : Below H w e.w := hbW.trans (e.below.mono (by omega))
        have hbb0 := hbb
        rw [← hH] at hbb
        refine bodyPost_ret (v := .tuple #[.agg #[.int .i64 0, .int .i64 0, .int .i64 0], .bool false]) (by simp [results, Tryz.results282, go_sem, hc, hf, cR, fR, l1]) rfl ⟨?_, rfl⟩
        go_grown
      · have h3' : decide (pageIx p c m A < 0) = true := decide_eq_true (by omega)
        clear hr h2
        refine wp_region_ext (by kernel_rfl) (by kernel_rfl) ?_
        repeat (go_big_quiet_step ((first
          | (go_at_call 251; exact ext_of (putEntry_any _ _ _ _))
          | (go_at_call 160; exact ext_of (planPage_any _ _ _ _ _))
          | (go_at_call 159; exact ext_same (slots_any _ _)))))
        refine wpQuiet_nil ?_
        rintro _ ⟨e, rfl⟩
        go_wp2
        have hc := bcell e.below
        have hf := bfree e.below
        have hbb : Below H w e.w := hbW.trans (e.below.mono (by omega))
        have hbb0 := hbb
        rw [← hH] at hbb
        refine bodyPost_ret (v := .tuple #[.agg #[.int .i64 0, .int .i64 0, .int .i64 0], .bool false]) (by simp [results, Tryz.results282, go_sem, hc, hf, cR, fR, l1]) rfl ⟨?_, rfl⟩
        go_grown
    · have h2' : (putV 1 [A, B, C] != x) = true := by simpa using h2
      clear hr
      refine wp_region_ext (by kernel_rfl) (by kernel_rfl) ?_
      repeat (go_big_quiet_step ((first
        | (go_at_call 251; exact ext_of (putEntry_any _ _ _ _))
        | (go_at_call 160; exact ext_of (planPage_any _ _ _ _ _))
        | (go_at_call 159; exact ext_same (slots_any _ _)))))
      refine wpQuiet_nil ?_
      rintro _ ⟨e, rfl⟩
      go_wp2
      have hc := bcell e.below
      have hf := bfree e.below
      have hbb : Below H w e.w := hbW.trans (e.below.mono (by omega))
      have hbb0 := hbb
      rw [← hH] at hbb
      refine bodyPost_ret (v := .tuple #[.agg #[.int .i64 0, .int .i64 0, .int .i64 0], .bool false]) (by simp [results, Tryz.results282, go_sem, hc, hf, cR, fR, l1]) rfl ⟨?_, rfl⟩
      go_grown
  · simp only [Bool.and_eq_true, beq_iff_eq, decide_eq_true_eq] at hr
    obtain ⟨⟨h2, h3⟩, h6⟩ := hr
    have h2' : (putV 1 [A, B, C] != x) = false := by simpa using h2
    have h3' : decide (pageIx p c m A < 0) = false := decide_eq_false (by omega)
    have h6' : ¬ B ≥ slotsV C := by omega
    clear h2
    refine wp_region_ext (by kernel_rfl) (by kernel_rfl) ?_
    repeat (go_big_quiet_step ((first
      | (go_at_call 251; exact ext_of (putEntry_any _ _ _ _))
      | (go_at_call 160; exact ext_of (planPage_any _ _ _ _ _))
      | (go_at_call 159; exact ext_same (slots_any _ _)))))
    refine wpQuiet_nil ?_
    rintro _ ⟨e, rfl⟩
    go_wp2
    have hc := bcell e.below
    have hf := bfree e.below
    have hbb : Below H w e.w := hbW.trans (e.below.mono (by omega))
    have hbb0 := hbb
    rw [← hH] at hbb
    refine bodyPost_ret (v := .tuple #[.agg #[.int .i64 A, .int .i64 B, .int .i64 C], .bool true]) (by simp [results, Tryz.results282, go_sem, hc, hf, cR, fR, l1]) rfl ⟨?_, rfl⟩
    go_grown

/-- The way that a slot's word says. -/
def readSlotB (x : Int) : Bool := slotV (kindV x) (partV x 0) == x

end Go.Proofs.YtcgakbgmdabnkaaGreat
/- Plain facts on sizes and places. -/
namespace Go.Proofs.YtcgakbgmdabnkaaGreat

def classV (n : Int) : Int := if wi n 1 32 = true then (if n ≤ 4 then 0 else if n ≤ 8 then 1 else if n ≤ 16 then 2 else 3) else 0
def runV (n : Int) : Int := if wi n 33 512 = true then (n - 1) / 64 + 1 else 0
def lenB (n : Int) : Bool := wi n 1 512
def lenV (n : Int) : Int := if wi n 1 32 = true then sizeV (classV n) else runV n * 64
theorem class_bd (n : Int) : 0 ≤ classV n ∧ classV n ≤ 3 := by unfold classV; split <;> (try split) <;> (try split) <;> (try split) <;> omega
theorem class_next {n k : Int} (hn : 1 ≤ n ∧ n ≤ 32) (h0 : 0 ≤ k) (h : k ≤ classV n) : sizeV k < n ↔ k < classV n := by
  have h1 : wi n 1 32 = true := wi_iff.2 hn
  unfold classV at *
  rw [if_pos h1] at *
  unfold sizeV
  split at h <;> (try split at h) <;> (try split at h) <;> (split <;> (try split) <;> (try split) <;> (try split) <;> (try split) <;> (try split) <;> (try split)) <;> omega
theorem run_bd (n : Int) : 0 ≤ runV n ∧ runV n ≤ 8 := by
  unfold runV; split
  · rename_i h; have := wi_iff.1 h; omega
  · omega
theorem size_bd (k : Int) : 0 ≤ sizeV k ∧ sizeV k ≤ 32 := by unfold sizeV; split <;> (try split) <;> (try split) <;> (try split) <;> omega
def totalV (p c m : Int) : Int := if mayB p c m = true then c + p + p * 16 + c * m else 0
def statusIx (p c m x : Int) : Int := if mayB p c m = true ∧ wi x 0 (c - 1) = true then x else -1
def slotIx (p c m a i : Int) : Int := if mayB p c m = true ∧ wi a 0 (p - 1) = true ∧ wi i 0 15 = true then c + p + a * 16 + i else -1
def magIx (p c m x i : Int) : Int := if mayB p c m = true ∧ wi x 0 (c - 1) = true ∧ wi i 0 (m - 1) = true then c + p + p * 16 + x * m + i else -1
theorem mul_bd {c m C M : Int} (hc : 0 ≤ c ∧ c ≤ C) (hm : 0 ≤ m ∧ m ≤ M) : 0 ≤ c * m ∧ c * m ≤ C * M :=
  ⟨Int.mul_nonneg hc.1 hm.1, Int.mul_le_mul hc.2 hm.2 hm.1 (by omega)⟩
end Go.Proofs.YtcgakbgmdabnkaaGreat
/- The machines, plain: shared words with their accesses; Taker, Putter, the claimers, Stripper, Binder. -/
namespace Go.Proofs.YtcgakbgmdabnkaaGreat

/-- A shape. -/
structure Sh where
  p : Int
  c : Int
  m : Int
  deriving DecidableEq
/-- An access. -/
structure Acc where
  c : Int
  k : Int
  a : Int
  was : Int
  put : Int
  ok : Bool
  deriving DecidableEq
/-- The shared words, how many accesses there were, the last one. -/
structure Mem where
  ws : List Int
  st : Int
  la : Acc
def Mem.get (m : Mem) (a : Int) : Int := m.ws.getD a.toNat 0
def Mem.load (m : Mem) (c a : Int) : Mem := ⟨m.ws, m.st + 1, ⟨c, 0, a, m.get a, 0, true⟩⟩
def Mem.store (m : Mem) (c a x : Int) : Mem := ⟨m.ws.set a.toNat x, m.st + 1, ⟨c, 1, a, m.get a, x, true⟩⟩
def Mem.swap (m : Mem) (c a was x : Int) : Mem := ⟨if m.get a = was then m.ws.set a.toNat x else m.ws, m.st + 1, ⟨c, 2, a, m.get a, x, decide (m.get a = was)⟩⟩
/-- Words that are. -/
def Mem.fit (m : Mem) : Prop := ∀ x ∈ m.ws, 0 ≤ x ∧ x < 18446744073709551616
def Mem.has (m : Mem) (a : Int) : Prop := 0 ≤ a ∧ a < (m.ws.length : Int)
def openW (k : Int) : Int := slotV 1 k
def wayW (c : Int) : Int := slotV 2 c
def takenW (k : Int) : Int := slotV 3 k
def heldW (c : Int) : Int := pageV 1 c 0

/-- Takes an entry out. -/
structure Tk where
  c : Int
  k : Int
  i : Int
  ep : Int
  es : Int
  ek : Int
  hit : Bool
  found : Bool
  done : Bool
  deriving DecidableEq
def tkNew (s : Sh) (c k : Int) : Tk := ⟨c, k, 0, 0, 0, 0, false, false, !(decide (0 ≤ statusIx s.p s.c s.m c) && decide (0 < slotsV k)) || s.m == 0⟩
def tkStep (s : Sh) (t : Tk) (m : Mem) : Tk × Mem :=
  if t.done = true then (t, m)
  else if t.hit = true then ({ t with found := true, done := true }, m.store t.c (magIx s.p s.c s.m t.c t.i) 0)
  else
    let x := m.get (magIx s.p s.c s.m t.c t.i)
    let m' := m.load t.c (magIx s.p s.c s.m t.c t.i)
    if readEntryB s.p s.c s.m x = true ∧ partV x 2 = t.k then ({ t with ep := partV x 0, es := partV x 1, ek := partV x 2, hit := true }, m')
    else ({ t with i := t.i + 1, done := decide (t.i + 1 = s.m) }, m')
/-- Puts an entry in. -/
structure Pu where
  c : Int
  i : Int
  ep : Int
  es : Int
  ek : Int
  hit : Bool
  put : Bool
  done : Bool
  deriving DecidableEq
def puNew (s : Sh) (c pg sl k : Int) : Pu := ⟨c, 0, pg, sl, k, false, false, !(decide (0 ≤ statusIx s.p s.c s.m c) && decide (0 < slotsV k) && decide (0 ≤ pageIx s.p s.c s.m pg) && decide (0 ≤ sl) && decide (sl < slotsV k)) || s.m == 0⟩
def puStep (s : Sh) (t : Pu) (m : Mem) : Pu × Mem :=
  if t.done = true then (t, m)
  else if t.hit = true then ({ t with put := true, done := true }, m.store t.c (magIx s.p s.c s.m t.c t.i) (putV 1 [t.ep, t.es, t.ek]))
  else
    let m' := m.load t.c (magIx s.p s.c s.m t.c t.i)
    if m.get (magIx s.p s.c s.m t.c t.i) = 0 then ({ t with hit := true }, m')
    else ({ t with i := t.i + 1, done := decide (t.i + 1 = s.m) }, m')
/-- Claims a slot. -/
structure Sc where
  c : Int
  k : Int
  first : Int
  many : Int
  i : Int
  next : Int
  found : Bool
  done : Bool
  deriving DecidableEq
def scNew (s : Sh) (c k first : Int) : Sc := ⟨c, k, first, 0, 0, 0, false, !(decide (0 ≤ statusIx s.p s.c s.m c) && decide (0 < slotsV k) && decide (0 ≤ pageIx s.p s.c s.m first))⟩
def Sc.page (s : Sh) (t : Sc) : Int := (t.first + t.many) % s.p
def Sc.turn (s : Sh) (t : Sc) : Sc := { t with many := t.many + 1, i := 0, next := 0, done := decide (t.many + 1 = s.p) }
def Sc.miss (s : Sh) (t : Sc) : Sc := if t.i + 1 = slotsV t.k then ({ t with i := t.i + 1, next := 1 } : Sc).turn s else { t with i := t.i + 1, next := 1 }
def scStep (s : Sh) (t : Sc) (m : Mem) : Sc × Mem :=
  if t.done = true then (t, m)
  else
    let at' := slotIx s.p s.c s.m (t.page s) t.i
    let pg := pageIx s.p s.c s.m (t.page s)
    if t.next = 0 then
      let x := m.get pg
      (if readPageB s.p s.c s.m (t.page s) x = true ∧ kindV x = 2 ∧ partV x 0 = t.k then { t with next := 1 } else t.turn s, m.load t.c pg)
    else if t.next = 1 then (if m.get at' = openW t.k then { t with next := 2 } else t.miss s, m.load t.c at')
    else (if m.get at' = openW t.k then { t with found := true, done := true } else t.miss s, m.swap t.c at' (openW t.k) (wayW t.c))
/-- Claims a page. -/
structure Pc where
  c : Int
  first : Int
  many : Int
  empty : Bool
  found : Bool
  done : Bool
  deriving DecidableEq
def pcNew (s : Sh) (c first : Int) : Pc := ⟨c, first, 0, false, false, decide (statusIx s.p s.c s.m c < 0) || decide (pageIx s.p s.c s.m first < 0)⟩
def Pc.page (s : Sh) (t : Pc) : Int := (t.first + t.many) % s.p
def pcStep (s : Sh) (t : Pc) (m : Mem) : Pc × Mem :=
  if t.done = true then (t, m)
  else
    let at' := pageIx s.p s.c s.m (t.page s)
    if t.empty = false then
      (if m.get at' = 0 then { t with empty := true } else { t with empty := false, many := t.many + 1, done := decide (t.many + 1 = s.p) }, m.load t.c at')
    else
      (if m.get at' = 0 then { t with found := true, done := true } else { t with empty := false, many := t.many + 1, done := decide (t.many + 1 = s.p) }, m.swap t.c at' 0 (heldW t.c))
/-- Strips a page. -/
structure Sp where
  c : Int
  page : Int
  k : Int
  i : Int
  back : Bool
  held : Bool
  done : Bool
  deriving DecidableEq
def spNew (s : Sh) (c page k : Int) : Sp := ⟨c, page, k, 0, false, false, !(decide (0 ≤ statusIx s.p s.c s.m c) && decide (0 ≤ pageIx s.p s.c s.m page) && decide (0 < slotsV k))⟩
def spStep (s : Sh) (t : Sp) (m : Mem) : Sp × Mem :=
  if t.done = true then (t, m)
  else if t.back = true then ({ t with i := t.i - 1, done := decide (t.i - 1 = 0) }, m.store t.c (slotIx s.p s.c s.m t.page (t.i - 1)) (openW t.k))
  else if t.i = slotsV t.k then ({ t with held := true, done := true }, m.store t.c (pageIx s.p s.c s.m t.page) (heldW t.c))
  else
    (if m.get (slotIx s.p s.c s.m t.page t.i) = openW t.k then { t with i := t.i + 1 } else { t with back := true, done := decide (t.i = 0) }, m.swap t.c (slotIx s.p s.c s.m t.page t.i) (openW t.k) (wayW t.c))
/-- Binds a page. -/
structure Bn where
  c : Int
  page : Int
  k : Int
  i : Int
  bound : Bool
  done : Bool
  deriving DecidableEq
def bnNew (s : Sh) (c page k : Int) : Bn := ⟨c, page, k, 0, false, !(decide (0 ≤ statusIx s.p s.c s.m c) && decide (0 ≤ pageIx s.p s.c s.m page) && decide (0 < slotsV k))⟩
def bnStep (s : Sh) (t : Bn) (m : Mem) : Bn × Mem :=
  if t.done = true then (t, m)
  else if t.bound = true then ({ t with i := t.i - 1, done := decide (t.i - 1 = 0) }, m.store t.c (slotIx s.p s.c s.m t.page t.i) (openW t.k))
  else if t.i = 16 then ({ t with bound := true, i := slotsV t.k - 1 }, m.store t.c (pageIx s.p s.c s.m t.page) (pageV 2 t.k t.c))
  else ({ t with i := t.i + 1 }, m.store t.c (slotIx s.p s.c s.m t.page t.i) (if t.i < slotsV t.k then wayW t.c else 0))
end Go.Proofs.YtcgakbgmdabnkaaGreat

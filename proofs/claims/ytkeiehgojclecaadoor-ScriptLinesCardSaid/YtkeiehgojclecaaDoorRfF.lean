/- The walk of the reference's line (printed by wip/rf_line.py). -/
import Derived.Test.YtkeiehgojclecaaDoorRfE

import Derived.Test.YtkeiehgojclecaaDoorScrB

namespace Go.Proofs.YtkeiehgojclecaaDoor

open Go.RowKit Fl

attribute [local go_sem ↓] Go.wp_at_zero Go.wp_at_succ

theorem S_lit (a l : List UInt8) : ByteArray.mk a.toArray ++ S l = S (a ++ l) := S_append a l
theorem S_lit' (a l : List UInt8) : S l ++ ByteArray.mk a.toArray = S (l ++ a) := S_append l a
set_option maxRecDepth 100000 in
set_option maxHeartbeats 1000000 in
theorem rline_any (c : Ch) (hc : c.wf) (w : World) :
    Calls Tryd.prog 20 #[c.val] w fun e w' => (∃ s : List UInt8, e = .returned (.tuple #[.string (S s), .bool (showL c).isSome]) ∧ ∀ r, showL c = some r → s = r) ∧ Below w.heap.size w w' := by
  obtain ⟨c1, c2, c3, c4, c5, c6, hdef⟩ : ∃ c1 c2 c3 c4 c5 c6, c = ⟨c1, c2, c3, c4, c5, c6⟩ := ⟨_, _, _, _, _, _, rfl⟩
  subst hdef
  obtain ⟨_, w2, _, w4, w5, w6⟩ := hc
  dsimp only at w2 w4 w5 w6
  have hb0 := (Below.refl w.heap.size w).alloc (Nat.le_refl _) (.cells #[.int .i64 c1, .int .i64 c2, .int .i64 c3, .int .i64 c4, .int .i64 c5, .float .f64 c6] 45)
  have bx := heap_alloc_new w (.cells #[.int .i64 c1, .int .i64 c2, .int .i64 c3, .int .i64 c4, .int .i64 c5, .float .f64 c6] 45)
  unfold Ch.val
  obtain ⟨sh, hsh0⟩ : ∃ sh, sh = showL ⟨c1, c2, c3, c4, c5, c6⟩ := ⟨_, rfl⟩
  rw [← hsh0]
  replace hsh0 := Lib.hid hsh0
  go_enter Tryd.func20, Tryd.ntmps20
  go_upto_region 1 with fail
  generalize w.alloc (.cells #[.int .i64 c1, .int .i64 c2, .int .i64 c3, .int .i64 c4, .int .i64 c5, .float .f64 c6] 45) = W at *
  obtain ⟨H, hH, hH'⟩ : ∃ H, Hid (H = w.heap.size) ∧ H = w.heap.size := ⟨_, Lib.hid rfl, rfl⟩
  rw [← hH'] at bx ⊢
  clear hH'
  have r0 : W.cell? ⟨H, 0, .none⟩ = some (.int .i64 c1) := rowCells bx 0
  have r1 : W.cell? ⟨H, 1, .none⟩ = some (.int .i64 c2) := rowCells bx 1
  have r2 : W.cell? ⟨H, 2, .none⟩ = some (.int .i64 c3) := rowCells bx 2
  have r3 : W.cell? ⟨H, 3, .none⟩ = some (.int .i64 c4) := rowCells bx 3
  have r4 : W.cell? ⟨H, 4, .none⟩ = some (.int .i64 c5) := rowCells bx 4
  have r5 : W.cell? ⟨H, 5, .none⟩ = some (.float .f64 c6) := rowCells bx 5
  have l0 : H < W.heap.size := (Array.getElem?_eq_some_iff.1 bx).1
  have n2 := Lib.hid (fun X => rnumber_any c2 w2 X)
  have n4 := Lib.hid (fun X => rnumber_any c4 w4 X)
  have n5 := Lib.hid (fun X => rnumber_any c5 w5 X)
  have n6 := Lib.hid (fun X => rbias_any c6 w6 X)
  have i2 := Lib.itoa_length_le c2 w2.1 w2.2
  have i4 := Lib.itoa_length_le c4 w4.1 w4.2
  have i5 := Lib.itoa_length_le c5 w5.1 w5.2
  have i6 := wrL_length w6
  have hsh : sh = (if c1 = 1 then some ([115, 116, 97, 114, 116] ++ (32 :: Lib.itoa c2) ++ [32] ++ wrL c6)
      else if c1 = 2 then (if c3 = 1 then (if c4 = 0 then some ([109, 97, 108, 108, 111, 99] ++ (32 :: Lib.itoa c2) ++ [32] ++ Lib.itoa c5) else none)
        else if c3 = 2 then (if c5 = 0 then some ([102, 114, 101, 101] ++ (32 :: Lib.itoa c2) ++ [32] ++ Lib.itoa c4) else none)
        else if c3 = 3 then some ([114, 101, 97, 108, 108, 111, 99] ++ (32 :: Lib.itoa c2) ++ [32] ++ Lib.itoa c4 ++ [32] ++ Lib.itoa c5)
        else if c3 = 4 then (if c5 = 0 then some ([97, 100, 111, 112, 116] ++ (32 :: Lib.itoa c2) ++ [32] ++ Lib.itoa c4) else none)
        else none)
      else if c1 = 3 then some ([115, 116, 101, 112] ++ (32 :: Lib.itoa c2))
      else if c1 = 4 then some ([107, 105, 108, 108] ++ (32 :: Lib.itoa c2))
      else none) := by
    rw [hsh0.out]
    unfold showL askL wordsL
    simp only [List.flatMap_cons, List.flatMap_nil, List.append_assoc, List.cons_append, List.nil_append, List.append_nil]
  clear w2 w4 w5 w6 bx
  generalize Lib.itoa c2 = I2 at *
  generalize Lib.itoa c4 = I4 at *
  generalize Lib.itoa c5 = I5 at *
  generalize wrL c6 = I6 at *
  have e32 : ∀ l, ByteArray.mk #[32] ++ S l = S (32 :: l) := S_lit [32]
  have e32' : ∀ l, S l ++ ByteArray.mk #[32] = S (l ++ [32]) := S_lit' [32]
  have eapp : ∀ a l, S a ++ S l = S (a ++ l) := S_append
  have es : ∀ l, ByteArray.mk #[115, 116, 97, 114, 116] ++ S l = S ([115, 116, 97, 114, 116] ++ l) := S_lit [115, 116, 97, 114, 116]
  have et : ∀ l, ByteArray.mk #[115, 116, 101, 112] ++ S l = S ([115, 116, 101, 112] ++ l) := S_lit [115, 116, 101, 112]
  have ek : ∀ l, ByteArray.mk #[107, 105, 108, 108] ++ S l = S ([107, 105, 108, 108] ++ l) := S_lit [107, 105, 108, 108]
  have em : ∀ l, ByteArray.mk #[109, 97, 108, 108, 111, 99] ++ S l = S ([109, 97, 108, 108, 111, 99] ++ l) := S_lit [109, 97, 108, 108, 111, 99]
  have ef : ∀ l, ByteArray.mk #[102, 114, 101, 101] ++ S l = S ([102, 114, 101, 101] ++ l) := S_lit [102, 114, 101, 101]
  have er : ∀ l, ByteArray.mk #[114, 101, 97, 108, 108, 111, 99] ++ S l = S ([114, 101, 97, 108, 108, 111, 99] ++ l) := S_lit [114, 101, 97, 108, 108, 111, 99]
  have ea : ∀ l, ByteArray.mk #[97, 100, 111, 112, 116] ++ S l = S ([97, 100, 111, 112, 116] ++ l) := S_lit [97, 100, 111, 112, 116]
  go_upto_region 2 with (go_at_call 19; refine (n2.out _).mono ?_; rintro r w1 ⟨rfl, hb1⟩)
  have hB := hb0.trans (hb1.mono hb0.size)
  have r0 := keepF hb1 _ _ _ r0
  have r2 := keepF hb1 _ _ _ r2
  have r3 := keepF hb1 _ _ _ r3
  have r4 := keepF hb1 _ _ _ r4
  have r5 := keepF hb1 _ _ _ r5
  have l1 := Nat.lt_of_lt_of_le l0 hb1.size
  clear hb0 hb1 l0 n2 r1
  by_cases hc11 : c1 = 1
  · replace hsh := hsh
    have xc11 : (c1 == 1) = true := by simp [hc11]
    have xc13 : (c1 == 3) = false := by simp [hc11]
    have xc14 : (c1 == 4) = false := by simp [hc11]
    have xc12 : (c1 == 2) = false := by simp [hc11]
    have hs := hsh
    simp only [hc11] at hs
    simp at hs
    replace hs := Lib.hid hs
    clear hsh hc11 
    go_wp2_with (go_at_call 35; refine (n6.out _).mono ?_; rintro r w2 ⟨rfl, hb2⟩)
    go_ret2
    exact ⟨⟨_, by rw [hs.out]; rfl, fun r hr => by rw [hs.out] at hr; injection hr⟩, hB.trans (hb2.mono hB.size)⟩
  · skip
    by_cases hc13 : c1 = 3
    · replace hsh := hsh
      have xc11 : (c1 == 1) = false := by simp [hc13]
      have xc13 : (c1 == 3) = true := by simp [hc13]
      have xc14 : (c1 == 4) = false := by simp [hc13]
      have xc12 : (c1 == 2) = false := by simp [hc13]
      have hs := hsh
      simp only [hc13] at hs
      simp at hs
      replace hs := Lib.hid hs
      clear hsh hc13 hc11
      go_wp2_with fail
      go_ret2
      exact ⟨⟨_, by rw [hs.out]; rfl, fun r hr => by rw [hs.out] at hr; injection hr⟩, hB⟩
    · skip
      by_cases hc14 : c1 = 4
      · replace hsh := hsh
        have xc11 : (c1 == 1) = false := by simp [hc14]
        have xc13 : (c1 == 3) = false := by simp [hc14]
        have xc14 : (c1 == 4) = true := by simp [hc14]
        have xc12 : (c1 == 2) = false := by simp [hc14]
        have hs := hsh
        simp only [hc14] at hs
        simp at hs
        replace hs := Lib.hid hs
        clear hsh hc14 hc11 hc13
        go_wp2_with fail
        go_ret2
        exact ⟨⟨_, by rw [hs.out]; rfl, fun r hr => by rw [hs.out] at hr; injection hr⟩, hB⟩
      · skip
        by_cases hc12 : c1 = 2
        · replace hsh := hsh
          have xc11 : (c1 == 1) = false := by simp [hc12]
          have xc13 : (c1 == 3) = false := by simp [hc12]
          have xc14 : (c1 == 4) = false := by simp [hc12]
          have xc12 : (c1 == 2) = true := by simp [hc12]
          rw [hc12] at hsh
          clear hc11 hc13 hc14 hc12
          simp only [show ¬ (2 : Int) = 1 by decide, if_false, if_true] at hsh
          by_cases hc31 : c3 = 1
          · have hs := hsh
            have xc31 : (c3 == 1) = true := by simp [hc31]
            have xc32 : (c3 == 2) = false := by simp [hc31]
            have xc33 : (c3 == 3) = false := by simp [hc31]
            have xc34 : (c3 == 4) = false := by simp [hc31]
            simp only [hc31] at hs
            simp at hs
            replace hs := Lib.hid hs
            clear hsh hc31 
            go_upto_region 12 with fail
            refine wp_region_ext (by kernel_rfl) (by kernel_rfl) ?_
            repeat (go_big_quiet_step ((go_at_call 19; exact ext_of (n5.out _))))
            refine wpQuiet_nil ?_
            rintro _ ⟨e, rfl⟩
            go_wp2
            go_ret2
            refine ⟨⟨_, by rw [hs.out]; by_cases hz : c4 = 0 <;> simp [hz] <;> rfl, fun r hr => ?_⟩, hB.trans (e.below.mono hB.size)⟩
            rw [hs.out] at hr; by_cases hz : c4 = 0
            · rw [if_pos hz] at hr; injection hr
            · rw [if_neg hz] at hr; cases hr
          · skip
            by_cases hc32 : c3 = 2
            · have hs := hsh
              have xc31 : (c3 == 1) = false := by simp [hc32]
              have xc32 : (c3 == 2) = true := by simp [hc32]
              have xc33 : (c3 == 3) = false := by simp [hc32]
              have xc34 : (c3 == 4) = false := by simp [hc32]
              simp only [hc32] at hs
              simp at hs
              replace hs := Lib.hid hs
              clear hsh hc32 hc31
              go_upto_region 14 with fail
              refine wp_region_ext (by kernel_rfl) (by kernel_rfl) ?_
              repeat (go_big_quiet_step ((go_at_call 19; exact ext_of (n4.out _))))
              refine wpQuiet_nil ?_
              rintro _ ⟨e, rfl⟩
              go_wp2
              go_ret2
              refine ⟨⟨_, by rw [hs.out]; by_cases hz : c5 = 0 <;> simp [hz] <;> rfl, fun r hr => ?_⟩, hB.trans (e.below.mono hB.size)⟩
              rw [hs.out] at hr; by_cases hz : c5 = 0
              · rw [if_pos hz] at hr; injection hr
              · rw [if_neg hz] at hr; cases hr
            · skip
              by_cases hc33 : c3 = 3
              · have hs := hsh
                have xc31 : (c3 == 1) = false := by simp [hc33]
                have xc32 : (c3 == 2) = false := by simp [hc33]
                have xc33 : (c3 == 3) = true := by simp [hc33]
                have xc34 : (c3 == 4) = false := by simp [hc33]
                simp only [hc33] at hs
                simp at hs
                replace hs := Lib.hid hs
                clear hsh hc33 hc31 hc32
                go_upto_region 16 with fail
                refine wp_region_ext (by kernel_rfl) (by kernel_rfl) ?_
                repeat (go_big_quiet_step ((first | (go_at_call 19; (with_reducible exact ext_of (n4.out _))) | (go_at_call 19; (with_reducible exact ext_of (n5.out _))))))
                refine wpQuiet_nil ?_
                rintro _ ⟨e, rfl⟩
                go_wp2
                go_ret2
                exact ⟨⟨_, by rw [hs.out]; rfl, fun r hr => by rw [hs.out] at hr; injection hr⟩, hB.trans (e.below.mono hB.size)⟩
              · skip
                by_cases hc34 : c3 = 4
                · have hs := hsh
                  have xc31 : (c3 == 1) = false := by simp [hc34]
                  have xc32 : (c3 == 2) = false := by simp [hc34]
                  have xc33 : (c3 == 3) = false := by simp [hc34]
                  have xc34 : (c3 == 4) = true := by simp [hc34]
                  simp only [hc34] at hs
                  simp at hs
                  replace hs := Lib.hid hs
                  clear hsh hc34 hc31 hc32 hc33
                  go_upto_region 18 with fail
                  refine wp_region_ext (by kernel_rfl) (by kernel_rfl) ?_
                  repeat (go_big_quiet_step ((go_at_call 19; exact ext_of (n4.out _))))
                  refine wpQuiet_nil ?_
                  rintro _ ⟨e, rfl⟩
                  go_wp2
                  go_ret2
                  refine ⟨⟨_, by rw [hs.out]; by_cases hz : c5 = 0 <;> simp [hz] <;> rfl, fun r hr => ?_⟩, hB.trans (e.below.mono hB.size)⟩
                  rw [hs.out] at hr; by_cases hz : c5 = 0
                  · rw [if_pos hz] at hr; injection hr
                  · rw [if_neg hz] at hr; cases hr
                · skip
                  have hs := hsh
                  rw [if_neg hc31, if_neg hc32, if_neg hc33, if_neg hc34] at hs
                  replace hs := Lib.hid hs
                  have xc31 : (c3 == 1) = false := by simp [hc31]
                  have xc32 : (c3 == 2) = false := by simp [hc32]
                  have xc33 : (c3 == 3) = false := by simp [hc33]
                  have xc34 : (c3 == 4) = false := by simp [hc34]
                  clear hsh hc31 hc32 hc33 hc34
                  go_wp2_with fail
                  go_ret2
                  exact ⟨⟨[], by rw [hs.out]; rfl, fun r hr => by rw [hs.out] at hr; cases hr⟩, hB⟩
        · skip
          have hs := hsh
          rw [if_neg hc11, if_neg hc12, if_neg hc13, if_neg hc14] at hs
          replace hs := Lib.hid hs
          have xc11 : (c1 == 1) = false := by simp [hc11]
          have xc12 : (c1 == 2) = false := by simp [hc12]
          have xc13 : (c1 == 3) = false := by simp [hc13]
          have xc14 : (c1 == 4) = false := by simp [hc14]
          clear hsh hc11 hc12 hc13 hc14
          go_wp2_with fail
          go_ret2
          exact ⟨⟨[], by rw [hs.out]; rfl, fun r hr => by rw [hs.out] at hr; cases hr⟩, hB⟩
end Go.Proofs.YtkeiehgojclecaaDoor

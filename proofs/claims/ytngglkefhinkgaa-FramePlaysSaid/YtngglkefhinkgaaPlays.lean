/- The walk of the law FramePlays. -/
import Derived.Test.YtngglkefhinkgaaPlayspush
import Derived.Test.YtngglkefhinkgaaPlayspop
import Derived.Test.YtngglkefhinkgaaPlaysgo
import Derived.Test.YtngglkefhinkgaaPlaysset
import Derived.Test.YtngglkefhinkgaaPlaysget
import Derived.Test.YtngglkefhinkgaaPlaysclear
import Derived.Deep.CutBlock
import Derived.Deep.DrawnRows
namespace Go.Proofs.Ytngglkefhinkgaa
open Go.RowKit
attribute [local go_sem ↓] Go.wp_at_zero Go.wp_at_succ

theorem belowHeap {B : Nat} {w w' : World} (h : Below B w w') (n : Nat) : Below B w (w'.drewN n) := below_drewN h n

set_option maxRecDepth 100000 in
set_option maxHeartbeats 4000000 in
theorem framePlays_any (most : Int) (ao : Option Addr) (len cap : Nat) (w : World) (hm0 : -9223372036854775808 ≤ most) (hm1 : most ≤ 9223372036854775807) (hlen : (len : Int) ≤ 100)
    (hd : ∀ b off, ao = some ⟨b, off, .none⟩ → ∀ j, j < len → ∃ dv n x ao' rl rc, DeedAt w b (off + j * 4) dv n x ao' rl rc) (hao : ∀ j, j < len → ∃ b off, ao = some ⟨b, off, .none⟩) :
    Calls Try.prog 7 #[.int .i64 most, .slice ao len cap] w fun e w' => e = .returned (.bool true) ∧ Below w.heap.size w w' := by
  go_enter Try.func7, Try.ntmps7
  go_upto_region 6 with (first
    | (go_at_call 14; refine (frame_awake _).mono ?_; rintro e w1 ⟨rfl, hw1⟩)
    | (go_at_call 15; refine (new_any _ _).mono ?_; rintro e w' ⟨rfl, rfl⟩))
  obtain ⟨mm, hmm, hmm0, hmm1⟩ : ∃ mm : Int, (if most < 0 ∨ 16 < most then 0 else most) = mm ∧ 0 ≤ mm ∧ mm ≤ 16 := ⟨_, rfl, by split <;> omega, by split <;> omega⟩
  rw [hmm]
  have hst0 := both_new w1 mm most
  have hbN : Below w1.heap.size w1 ((w1.alloc (.cells #[.slice none 0 0, .int .i64 mm] 80)).alloc (.cells #[.slice none 0 0, .int .i64 most] 58)) := by go_grown
  obtain ⟨Wn, hWn⟩ : ∃ Wn, ((w1.alloc (.cells #[.slice none 0 0, .int .i64 mm] 80)).alloc (.cells #[.slice none 0 0, .int .i64 most] 58)) = Wn := ⟨_, rfl⟩
  rw [hWn] at hbN ⊢
  have hst0 := hst0 Wn hWn.symm
  clear hWn
  go_cut [34] (fun s34 wx => s34 = .bool (decide (most < 0 ∨ 16 < most)) ∧ wx = Wn)
  case first =>
    by_cases h1 : most < 0
    · go_wp2_with fail
      all_goals go_meet
      all_goals exact ⟨by simp [h1], rfl⟩
    · have h1' : 0 ≤ most := by omega
      go_wp2_with fail
      all_goals go_meet
      all_goals exact ⟨by congr 1; simp; omega, rfl⟩
  case rest =>
  obtain ⟨rfl, rfl⟩ := hcut
  go_upto_if 34 with fail
  go_cut [] (fun wx => Both w1.heap.size wx mm [] ∧ Below w1.heap.size w1 wx)
  case first =>
    have z0 := rowCells hst0.2
    have z1 := rowFree hst0.2
    by_cases hbad : most < 0 ∨ 16 < most
    · rw [if_pos hbad] at hmm
      have hdec : decide (most < 0 ∨ 16 < most) = true := decide_eq_true hbad
      subst hmm
      go_wp2_with fail
      all_goals go_meet
      all_goals exact ⟨Both.of_two (by rw [heap_setCell_other _ _ _ _ (by show w1.heap.size ≠ w1.heap.size + 1; omega)]; exact hst0.1) (by rw [heap_setCell_same _ _ _ _ _ _ hst0.2]; rfl), hbN.setCell (by show _ ≤ w1.heap.size + 1; omega) _⟩
    · rw [if_neg hbad] at hmm
      have hdec : decide (most < 0 ∨ 16 < most) = false := decide_eq_false hbad
      subst hmm
      go_wp2_with fail
      all_goals go_meet
      all_goals exact ⟨Both.of_two hst0.1 hst0.2, hbN⟩
  case rest =>
  obtain ⟨hst, hb0⟩ := hcut
  clear hst0 hbN hmm
  have hlw : w.heap.size ≤ w1.heap.size := hw1.size
  have hbw := hw1.trans (hb0.mono hlw)
  generalize hS : w1.heap.size = S at *
  go_wp2_with fail
  go_loopw [7] (fun v7 wr => ∃ i : Nat, i ≤ len ∧ v7 = .int .i64 i ∧ (∃ fs : List Fr, fs.length ≤ 16 ∧ Both S wr mm fs) ∧ Below S w1 wr) (fun v7 _ => len - (intOf v7).toNat)
  case atStart => exact ⟨0, Nat.zero_le _, rfl, ⟨[], by simp, hst⟩, hb0⟩
  case round =>
    as_aux_lemma =>
    obtain ⟨i, hi, rfl, ⟨fs, hfs, hst⟩, hbr⟩ := hrel
    by_cases hlt : i < len
    · have hil : (i : Int) < (len : Int) := by omega
      obtain ⟨b, off, rfl⟩ := hao i hlt
      obtain ⟨dv, n, x, ao', rl, rc, c0, c1, c2, c3, hrl, hreg⟩ := hd b off rfl i hlt
      have hkeep : Below w.heap.size w wr := hw1.trans (hbr.mono hlw)
      have d0 := keepF hkeep _ _ _ c0
      have d1 := keepF hkeep _ _ _ c1
      have d2 := keepF hkeep _ _ _ c2
      have d3 := keepF hkeep _ _ _ c3
      have hlr : S + 1 < wr.heap.size := by obtain ⟨_, _, _, h, _⟩ := hst; exact h.lt
      by_cases hr : (50 : Int) < (rl : Int)
      · go_wp2_with fail
        go_ret
        exact ⟨rfl, hkeep.alloc (by have := hkeep.size; omega) _⟩
      · obtain ⟨zs, rfl, hzc, hzn⟩ := hreg (by omega)
        go_upto_region 16 with fail
        obtain ⟨sl, ml, hT0⟩ := hst
        have hT := hT0.below ((Below.refl _ _).alloc (Nat.le_refl _) (.cells #[.int .i64 dv, .int .i64 n, .int .i64 x, .slice ao' zs.length rc] 60))
        have hbr1 : Below S w1 (wr.alloc (.cells #[.int .i64 dv, .int .i64 n, .int .i64 x, .slice ao' zs.length rc] 60)) := hbr.alloc (by omega) _
        have hD := rowCells (heap_alloc_new wr (.cells #[.int .i64 dv, .int .i64 n, .int .i64 x, .slice ao' zs.length rc] 60))
        have hDs : wr.heap.size < (wr.alloc (.cells #[.int .i64 dv, .int .i64 n, .int .i64 x, .slice ao' zs.length rc] 60)).heap.size := by simp
        have hk1 : Below w.heap.size w (wr.alloc (.cells #[.int .i64 dv, .int .i64 n, .int .i64 x, .slice ao' zs.length rc] 60)) := hkeep.alloc (by have := hkeep.size; omega) _
        generalize (wr.alloc (.cells #[.int .i64 dv, .int .i64 n, .int .i64 x, .slice ao' zs.length rc] 60)) = W at *
        have hslD : ¬ foot S sl wr.heap.size := by
          rintro (h | h)
          · omega
          · have := (hT0.left.rowLt _ h).2; omega
        have hmlD : ¬ foot (S + 1) ml wr.heap.size := by
          rintro (h | h)
          · omega
          · have := (hT0.right.rowLt _ h).2; omega
        generalize hDn : wr.heap.size = D at *
        have D0 : W.cell? ⟨D, 0, .none⟩ = some (.int .i64 dv) := hD 0
        have D1 : W.cell? ⟨D, 1, .none⟩ = some (.int .i64 n) := hD 1
        have D2 : W.cell? ⟨D, 2, .none⟩ = some (.int .i64 x) := hD 2
        have D3 : W.cell? ⟨D, 3, .none⟩ = some (.slice ao' zs.length rc) := hD 3
        clear d0 d1 d2 d3 c0 c1 c2 c3 hT0 hbr hkeep hreg hD hDn hst0
        have m0 := hT.right.cell0
        have hml : ∃ a c, ml = .slice a fs.length c := by
          rcases hT.right.form with ⟨rfl, rfl⟩ | ⟨g, cap, rfl, _⟩
          · exact ⟨_, _, rfl⟩
          · exact ⟨_, _, rfl⟩
        obtain ⟨ma, mc, rfl⟩ := hml
        have hrl' : (zs.length : Int) ≤ 50 := by omega
        have hSW : S ≤ W.heap.size := by omega
        have hfl : (fs.length : Int) ≤ 16 := by omega
        go_upto_block 2 with fail
        go_cut [10] (fun s10 wx => s10 = .bool true ∧ (∃ fs' : List Fr, fs'.length ≤ 16 ∧ Both S wx mm fs') ∧ Below S w1 wx)
        case first =>
          by_cases k1 : dv ≤ 2
          · exact plays_push hmm1 hfs hzc hzn hbr1 hk1 hlr hDs hslD hmlD hT D0 D1 D2 D3 hrl' hSW hfl hlw m0 k1 (by assumption) (by assumption)
          · 
            by_cases k2 : dv = 3
            · exact plays_pop hmm1 hfs hzc hzn hbr1 hk1 hlr hDs hslD hmlD hT D0 D1 D2 D3 hrl' hSW hfl hlw m0 k1 k2 (by assumption) (by assumption)
            · 
              by_cases k3 : dv = 4
              · exact plays_go hmm1 hfs hzc hzn hbr1 hk1 hlr hDs hslD hmlD hT D0 D1 D2 D3 hrl' hSW hfl hlw m0 k1 k2 k3 (by assumption) (by assumption)
              · 
                by_cases k4 : dv ≤ 6
                · exact plays_set hmm1 hfs hzc hzn hbr1 hk1 hlr hDs hslD hmlD hT D0 D1 D2 D3 hrl' hSW hfl hlw m0 k1 k2 k3 k4 (by assumption) (by assumption)
                · 
                  by_cases k5 : dv = 7
                  · exact plays_get hmm1 hfs hzc hzn hbr1 hk1 hlr hDs hslD hmlD hT D0 D1 D2 D3 hrl' hSW hfl hlw m0 k1 k2 k3 k4 k5 (by assumption) (by assumption)
                  · 
                    exact plays_clear hmm1 hfs hzc hzn hbr1 hk1 hlr hDs hslD hmlD hT D0 D1 D2 D3 hrl' hSW hfl hlw m0 k1 k2 k3 k4 k5 (by assumption) (by assumption)
        case rest =>
          as_aux_lemma =>
          obtain ⟨rfl, ⟨fs2, hfs2, sl2, ml2, hT1⟩, hbc⟩ := hcut
          clear hT m0 D0 D1 D2 D3 hslD hmlD hbr1 hk1 hzc hzn
          have hfl2 : (fs2.length : Int) ≤ 16 := by omega
          have hi1 : (i : Int) + 1 ≤ 9223372036854775807 := by omega
          have hml : ∃ a c, ml2 = .slice a fs2.length c := by
            rcases hT1.right.form with ⟨rfl, rfl⟩ | ⟨g, cap, rfl, _⟩
            · exact ⟨_, _, rfl⟩
            · exact ⟨_, _, rfl⟩
          obtain ⟨ma2, mc2, rfl⟩ := hml
          have hSl := hT1.right.lt
          have hne : ((fs2.length : Int) != (fs2.length : Int)) = false := by simp
          by_cases h0 : fs2.length = 0
          · have hp : ¬ (0 : Int) < (fs2.length : Int) := by omega
            have hpb : decide (0 < fs2.length) = false := decide_eq_false (by omega)
            have H0 := Lib.hid h0
            clear h0
            go_upto_region 43 with (go_at_call 17; refine Calls.mono (two_top_nil hT1 (by exact ⟨rfl, rfl, rfl, rfl⟩) H0.out) ?_; rintro e w2 ⟨rfl, hb2⟩)
            have hbV : Below wc.heap.size wc (w2.alloc (.cells #[.int .i64 0, .int .i64 0, .int .i64 0, .int .i64 0, .int .i64 0, .int .i64 0, .int .i64 0, .int .i64 0, .int .i64 0, .int .i64 0] 41)) := hb2.alloc hb2.size _
            generalize (w2.alloc (.cells #[.int .i64 0, .int .i64 0, .int .i64 0, .int .i64 0, .int .i64 0, .int .i64 0, .int .i64 0, .int .i64 0, .int .i64 0, .int .i64 0] 41)) = V at *
            have hTV := hT1.below hbV
            have hm1 := hTV.right.cell0
            go_upto_region 44 with fail
            refine wp_region_ext (by kernel_rfl) (by kernel_rfl) ?_
            repeat (go_big_quiet_step ((first
              | (go_at_call 20; exact ext_same (two_depth hTV (Ext.below _))))))
            refine wpQuiet_nil ?_
            rintro _ ⟨e, rfl⟩
            have hTe := hTV.below e.below
            have hbe := e.below
            generalize e.w = X at *
            clear e hm1
            go_wp2_with fail
            go_roundw
            case rel => exact ⟨i + 1, by omega, by go_num, ⟨fs2, hfs2, _, _, hTe⟩, hbc.trans ((hbV.mono hT1.sz).trans (hbe.mono hTV.sz))⟩
            case measure => simp [intOf]; omega
          · have hp : (0 : Int) < (fs2.length : Int) := by omega
            have hpb : decide (0 < fs2.length) = true := decide_eq_true (by omega)
            obtain ⟨g, cap, code, pc, r0, r1, r2, r3, r4, r5, r6, r7, hml, hg, hgs, hBg, ht, c0, c1, c2, c3, c4, c5, c6, c7, c8, c9, hcap, hn63, hfr⟩ := last_row hT1.right h0
            cases hml
            go_upto_region 43 with (go_at_call 17; refine Calls.mono (two_top hT1 (by exact ⟨rfl, rfl, rfl, rfl⟩) h0 ht) ?_; rintro e w2 ⟨rfl, hb2⟩)
            have hF := rowCells (heap_alloc_new w2 (.cells #[.int .i64 code, .int .i64 pc, .int .i64 r0, .int .i64 r1, .int .i64 r2, .int .i64 r3, .int .i64 r4, .int .i64 r5, .int .i64 r6, .int .i64 r7] 41))
            have hFs : w2.heap.size < (w2.alloc (.cells #[.int .i64 code, .int .i64 pc, .int .i64 r0, .int .i64 r1, .int .i64 r2, .int .i64 r3, .int .i64 r4, .int .i64 r5, .int .i64 r6, .int .i64 r7] 41)).heap.size := by simp
            have hbV : Below wc.heap.size wc (w2.alloc (.cells #[.int .i64 code, .int .i64 pc, .int .i64 r0, .int .i64 r1, .int .i64 r2, .int .i64 r3, .int .i64 r4, .int .i64 r5, .int .i64 r6, .int .i64 r7] 41)) := hb2.alloc hb2.size _
            have hz2 := hb2.size
            generalize (w2.alloc (.cells #[.int .i64 code, .int .i64 pc, .int .i64 r0, .int .i64 r1, .int .i64 r2, .int .i64 r3, .int .i64 r4, .int .i64 r5, .int .i64 r6, .int .i64 r7] 41)) = V at *
            have hTV := hT1.below hbV
            have hm1 := hTV.right.cell0
            go_upto_region 44 with fail
            have b1 : (0 : Int) ≤ (fs2.length : Int) - 1 := by omega
            have b2 : (fs2.length : Int) - 1 < (fs2.length : Int) := by omega
            have b3 : ((fs2.length : Int) - 1).toNat = fs2.length - 1 := by omega
            have kk := keepF hbV
            replace c0 := kk _ _ _ c0
            replace c1 := kk _ _ _ c1
            replace c2 := kk _ _ _ c2
            replace c3 := kk _ _ _ c3
            replace c4 := kk _ _ _ c4
            replace c5 := kk _ _ _ c5
            replace c6 := kk _ _ _ c6
            replace c7 := kk _ _ _ c7
            replace c8 := kk _ _ _ c8
            replace c9 := kk _ _ _ c9
            have f0 : V.cell? ⟨w2.heap.size, 0, .none⟩ = some (.int .i64 code) := hF 0
            have f1 : V.cell? ⟨w2.heap.size, 1, .none⟩ = some (.int .i64 pc) := hF 1
            have f2 : V.cell? ⟨w2.heap.size, 2, .none⟩ = some (.int .i64 r0) := hF 2
            have f3 : V.cell? ⟨w2.heap.size, 3, .none⟩ = some (.int .i64 r1) := hF 3
            have f4 : V.cell? ⟨w2.heap.size, 4, .none⟩ = some (.int .i64 r2) := hF 4
            have f5 : V.cell? ⟨w2.heap.size, 5, .none⟩ = some (.int .i64 r3) := hF 5
            have f6 : V.cell? ⟨w2.heap.size, 6, .none⟩ = some (.int .i64 r4) := hF 6
            have f7 : V.cell? ⟨w2.heap.size, 7, .none⟩ = some (.int .i64 r5) := hF 7
            have f8 : V.cell? ⟨w2.heap.size, 8, .none⟩ = some (.int .i64 r6) := hF 8
            have f9 : V.cell? ⟨w2.heap.size, 9, .none⟩ = some (.int .i64 r7) := hF 9
            have hgV : g < V.heap.size := by omega
            have hSV : S + 1 < V.heap.size := by omega
            clear kk hF
            generalize hFF : w2.heap.size = F at *
            refine wp_region_ext (by kernel_rfl) (by kernel_rfl) ?_
            repeat (go_big_quiet_step ((first
              | (go_at_call 20; exact ext_same (two_depth hTV (Ext.below _)))
              | (go_at_call 24; exact ext_of (same_top _ _ _ _ _ _ _ _ _ _ _)))))
            refine wpQuiet_nil ?_
            rintro _ ⟨e, rfl⟩
            have hTe := hTV.below e.below
            have hbe := e.below
            generalize e.w = X at *
            clear e hm1 c0 c1 c2 c3 c4 c5 c6 c7 c8 c9 f0 f1 f2 f3 f4 f5 f6 f7 f8 f9
            go_wp2_with fail
            go_roundw
            case rel => exact ⟨i + 1, by omega, by go_num, ⟨fs2, hfs2, _, _, hTe⟩, hbc.trans ((hbV.mono hT1.sz).trans (hbe.mono hTV.sz))⟩
            case measure => simp [intOf]; omega
    · have hil : ¬ (i : Int) < (len : Int) := by omega
      go_wp2_with fail
      go_ret
      exact ⟨rfl, hw1.trans (hbr.mono hlw)⟩
end Go.Proofs.Ytngglkefhinkgaa

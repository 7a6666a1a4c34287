/- The walk of the law ScriptBias. -/
import Derived.Test.YtkeiehgojclecaaDoorScrRt

import Derived.Test.YtkeiehgojclecaaDoorScrJ

import Derived.Test.YtkeiehgojclecaaDoorSchK

namespace Go.Proofs.YtkeiehgojclecaaDoor

open Go.RowKit Fl

attribute [local go_sem ↓] Go.wp_at_zero Go.wp_at_succ

theorem bounds_u64 {a : Int} (h : (Lit.int .u64 a).wf = true) : 0 ≤ a ∧ a < 18446744073709551616 := by
  simp [Lit.wf, IntKind.min, IntKind.max, IntKind.signed, IntKind.bits] at h
  omega
theorem wf_bias {x : Nat} (hx : x < 18446744073709551616) : (⟨1, 0, 0, 0, 0, x⟩ : Ch).wf := by
  have h1 : i64 1 := ⟨by decide, by decide⟩
  have h0 : i64 0 := ⟨by decide, by decide⟩
  exact ⟨h1, h0, h0, h0, h0, hx⟩
/-- A float as it is read behind its text. -/
def nrm (x : Nat) : Nat := if nan x = true then nanV else x
theorem nan_nrm (x : Nat) : nan (nrm x) = nan x := by
  unfold nrm
  by_cases h : nan x = true
  · rw [if_pos h, h]; decide
  · rw [if_neg h]
theorem nrm_num {x : Nat} (h : nan x = false) : nrm x = x := by unfold nrm; rw [if_neg (by rw [h]; decide)]
theorem bias_back (x y : Nat) (hx : x < 18446744073709551616) (hy : y < 18446744073709551616) :
    (printO 1 1 0 [⟨1, 0, 0, 0, 0, x⟩, ⟨1, 0, 0, 0, 0, y⟩]).2 = 0 ∧ (printO 1 1 0 [⟨1, 0, 0, 0, 0, x⟩, ⟨1, 0, 0, 0, 0, y⟩]).1.length < 1000000 ∧
    parseO (printO 1 1 0 [⟨1, 0, 0, 0, 0, x⟩, ⟨1, 0, 0, 0, 0, y⟩]).1 = ((1, 1, 0), [⟨1, 0, 0, 0, 0, nrm x⟩, ⟨1, 0, 0, 0, 0, nrm y⟩], 0, 0) := by
  have hwf : ∀ c ∈ [(⟨1, 0, 0, 0, 0, x⟩ : Ch), ⟨1, 0, 0, 0, 0, y⟩], c.wf := by
    intro c hc
    simp only [List.mem_cons, List.not_mem_nil, or_false] at hc
    rcases hc with rfl | rfl
    · exact wf_bias hx
    · exact wf_bias hy
  obtain ⟨t, ht⟩ : ∃ t, showsO [(⟨1, 0, 0, 0, 0, x⟩ : Ch), ⟨1, 0, 0, 0, 0, y⟩] = some t := ⟨_, rfl⟩
  have hi1 : i64 1 := ⟨by decide, by decide⟩
  have hi0 : i64 0 := ⟨by decide, by decide⟩
  have hlen := small_text hi1 hi1 hi0 hwf (by simp) 2 t (by simpa using ht)
  have hp := parse_print hi1 hi1 hi0 hwf ht hlen (by simp)
  have e : printO 1 1 0 [(⟨1, 0, 0, 0, 0, x⟩ : Ch), ⟨1, 0, 0, 0, 0, y⟩] = (headL 1 1 0 ++ t, 0) := by unfold printO; rw [ht]
  rw [e]
  refine ⟨rfl, by dsimp only; omega, ?_⟩
  dsimp only
  rw [hp]
  simp [Ch.norm, nrm]
set_option maxRecDepth 100000 in
set_option maxHeartbeats 1000000 in
theorem bias_any (x y : Nat) (hx : x < 18446744073709551616) (hy : y < 18446744073709551616) (w : World) (h : Laid w) :
    Calls Tryd.prog 5 #[.int .u64 x, .float .f64 y] w fun e w' => e = .returned (.bool true) ∧ Below w.heap.size w w' := by
  have hbk := bias_back x y hx hy
  have hi1 : i64 1 := ⟨by decide, by decide⟩
  have hi0 : i64 0 := ⟨by decide, by decide⟩
  have hwf : ∀ c ∈ [(⟨1, 0, 0, 0, 0, x⟩ : Ch), ⟨1, 0, 0, 0, 0, y⟩], c.wf := by
    intro c hc
    simp only [List.mem_cons, List.not_mem_nil, or_false] at hc
    rcases hc with rfl | rfl
    · exact wf_bias hx
    · exact wf_bias hy
  have hfr : ∀ X, (callFunc 14 #[.int .u64 x]).run Tryd.prog X = .ok (.value (.float .f64 x)) X := fun X => run_frombits x X
  have haw := Lib.hid (awake25_any w h)
  go_enter Tryd.func5, Tryd.ntmps5
  go_upto_region 3 with (go_at_call 8; refine haw.out.mono ?_; rintro r w1 ⟨rfl, hb1⟩)
  clear haw
  go_upto_region 5 with fail
  have t2 := two_blocks w1 (.cells #[.int .i64 1, .int .i64 1, .int .i64 0] 26) (.cells #[.int .i64 1, .int .i64 0, .int .i64 0, .int .i64 0, .int .i64 0, .float .f64 x, .int .i64 1, .int .i64 0, .int .i64 0, .int .i64 0, .int .i64 0, .float .f64 y] 45)
  generalize (w1.alloc (.cells #[.int .i64 1, .int .i64 1, .int .i64 0] 26)).alloc (.cells #[.int .i64 1, .int .i64 0, .int .i64 0, .int .i64 0, .int .i64 0, .float .f64 x, .int .i64 1, .int .i64 0, .int .i64 0, .int .i64 0, .int .i64 0, .float .f64 y] 45) = W at *
  obtain ⟨H, hH, hH'⟩ : ∃ H, Hid (H = w1.heap.size) ∧ H = w1.heap.size := ⟨_, Lib.hid rfl, rfl⟩
  obtain ⟨bx, bg, hWs, hbW⟩ := t2
  simp only [← hH'] at bx bg hWs ⊢
  obtain ⟨G, hG, hG'⟩ : ∃ G, Hid (G = H + 1) ∧ G = H + 1 := ⟨_, Lib.hid rfl, rfl⟩
  simp only [← hG'] at bg ⊢
  clear hG' hH'
  have hrl : RdC W (.slice (some ⟨G, 0, .none⟩) 2 2) [⟨1, 0, 0, 0, 0, x⟩, ⟨1, 0, 0, 0, 0, y⟩] := (RdS.new (sz := 6) (n := 2) bg rfl (by omega)).c
  have hB := hb1.trans (hbW.mono hb1.size)
  have hL1 := h.below hB
  have l1 : H < W.heap.size := (Array.getElem?_eq_some_iff.1 bx).1
  have l2 : G < W.heap.size := (Array.getElem?_eq_some_iff.1 bg).1
  have hch := Lib.hid (fun X (hX : Below W.heap.size W X) => (choices_any _ _ X (hrl.below hX) (by simp)).mono (R' := fun e w' => ∃ v', e = .returned v' ∧ Below X.heap.size X w' ∧ RdC w' v' [⟨1, 0, 0, 0, 0, x⟩, ⟨1, 0, 0, 0, 0, y⟩]) fun _ _ ⟨v', h1, h2, h3⟩ => ⟨v', h1, h2, h3.rd⟩)
  have hpr := Lib.hid (fun X v' (hX : Below W.heap.size W X) (hv : RdC X v' [⟨1, 0, 0, 0, 0, x⟩, ⟨1, 0, 0, 0, 0, y⟩]) => print_any 1 1 0 hi1 hi1 hi0 _ v' X hv hwf (by simp) (small_text hi1 hi1 hi0 hwf (by simp)) (hL1.below hX))
  have hK : Hid (∀ X, Below W.heap.size W X → X.cell? ⟨H, 0, .none⟩ = some (.int .i64 1) ∧ X.cell? ⟨H, 1, .none⟩ = some (.int .i64 1) ∧ X.cell? ⟨H, 2, .none⟩ = some (.int .i64 0)) := Lib.hid fun X hX =>
    ⟨(cell_blk (hX.block H l1)).trans (rowCells bx 0), (cell_blk (hX.block H l1)).trans (rowCells bx 1), (cell_blk (hX.block H l1)).trans (rowCells bx 2)⟩
  have hJ : Hid (∀ X, Below W.heap.size W X → X.cell? ⟨G, 5, .none⟩ = some (.float .f64 x) ∧ X.cell? ⟨G, 11, .none⟩ = some (.float .f64 y)) := Lib.hid fun X hX =>
    ⟨(cell_blk (hX.block G l2)).trans (rowCells bg 5), (cell_blk (hX.block G l2)).trans (rowCells bg 11)⟩
  obtain ⟨y0, y1, y2⟩ := hK.out W (Below.refl _ _)
  replace hB := Lib.hid hB
  replace hbk := Lib.hid hbk
  generalize printO 1 1 0 [⟨1, 0, 0, 0, 0, x⟩, ⟨1, 0, 0, 0, 0, y⟩] = PO at *
  obtain ⟨PL, PE⟩ := PO
  obtain ⟨hp0, hpl, hpp⟩ := hbk.out
  dsimp only at hp0 hpl hpp hpr
  subst hp0
  have hpa := Lib.hid (fun X (hX : Below W.heap.size W X) => parse_any PL hpl X (hL1.below hX))
  clear hbk hpl hwf hb1 hbW hrl bg bx hWs hL1 l1 l2
  rw [hpp] at hpa
  clear hpp
  go_region_held3 (fun X => X.cell? ⟨H, 0, .none⟩ = some (.int .i64 1) ∧ X.cell? ⟨H, 1, .none⟩ = some (.int .i64 1) ∧ X.cell? ⟨H, 2, .none⟩ = some (.int .i64 0))
    (first | exact hK.out _ (by go_grown) | fail)
    (first
      | (go_at_call 13; refine (hch.out _ (by go_grown)).mono ?_; rintro e w2 ⟨v', rfl, hb2, hv2⟩; have hB2 := belowTrans (w := W) (by go_grown) hb2; have hS2 := hB2.size)
      | (go_at_call 12; refine (hpr.out _ _ (by go_grown) (by exact hv2)).mono ?_; rintro e w3 ⟨rfl, hb3⟩; have hB3 := belowTrans (w := W) (by go_grown) hb3; have hS3 := hB3.size) | fail)
  have hpa3 := Lib.hid (hpa.out w3 hB3)
  clear hpa hpr hch hK y0 y1 y2 hH
  go_upto_region 7 with (go_at_call 11; refine hpa3.out.mono ?_; rintro r w4 ⟨⟨v4, rfl, hr4⟩, hb4⟩)
  replace hr4 : RdC w4 v4 [⟨1, 0, 0, 0, 0, nrm x⟩, ⟨1, 0, 0, 0, 0, nrm y⟩] := hr4
  clear hpa3
  obtain ⟨ao, cap, e4, hc2, _, _⟩ := id hr4
  obtain rfl : v4 = .slice ao 2 cap := e4
  have hB4 := hB3.trans (hb4.mono hB3.size)
  have hZ := (Below.refl w4.heap.size w4).alloc (Nat.le_refl _) (.cells #[.int .i64 1, .int .i64 1, .int .i64 0] 26)
  have hB5 := hB4.trans (hZ.mono hB4.size)
  have hr5 := hr4.below hZ
  generalize w4.alloc (.cells #[.int .i64 1, .int .i64 1, .int .i64 0] 26) = Z at *
  have hend := Lib.hid (hB.out.trans (hB5.mono hB.out.size))
  obtain ⟨b, off, rfl, hbl, _, _, _, _, _, m0⟩ := hr5.nth 0 (by simp)
  obtain ⟨b', off', e', _, _, _, _, _, _, m1⟩ := hr5.nth 1 (by simp)
  injection e' with e'
  injection e' with e1 e2
  subst e1 e2
  obtain ⟨j0, j1⟩ := hJ.out Z hB5
  have hcells : Hid (∀ Y, Below Z.heap.size Z Y → ∀ i : Nat, i < 2 → ∃ q, Y.cell? ⟨G, i * 6 + 5, .none⟩ = some (.float .f64 q) ∧ Y.cell? ⟨b, off + i * 6 + 5, .none⟩ = some (.float .f64 (nrm q))) := Lib.hid fun Y hY i hi => by
    match i, hi with
    | 0, _ => exact ⟨x, (hY.cell (p := ⟨G, 5, .none⟩) (cell_lt j0)).trans j0, (hY.cell (p := ⟨b, off + 0 * 6 + 5, .none⟩) hbl).trans m0⟩
    | 1, _ => exact ⟨y, (hY.cell (p := ⟨G, 11, .none⟩) (cell_lt j1)).trans j1, (hY.cell (p := ⟨b, off + 1 * 6 + 5, .none⟩) hbl).trans m1⟩
  clear m0 m1 j0 j1 hr5 hr4 hB5 hZ hb4 hB4 hbl hB hB3 hB2 hv2 hS3 hS2 hb2 hb3
  have hbits := run_bits
  go_wp2_with fail
  go_loopw [13, 14, 15] (fun v13 _ _ wr => ∃ i : Nat, v13 = .int .i64 i ∧ i ≤ 2 ∧ Below Z.heap.size Z wr) (fun v13 _ _ _ => 2 - (intOf v13).toNat)
  case atStart => exact ⟨0, rfl, by omega, Below.refl _ _⟩
  case round =>
    obtain ⟨i, rfl, hi, hY⟩ := hrel
    by_cases hlt : i < 2
    · obtain ⟨q, c1, c2⟩ := hcells.out wr hY i hlt
      have hlt' : (i : Int) < 2 := by omega
      have hi0 : (0 : Int) ≤ (i : Int) := by omega
      have hit : ((i : Int)).toNat = i := by omega
      have wi1 : IntKind.i64.wrap ((i : Int) + 1) = (i : Int) + 1 := IntWalk.i64_in _ ⟨by omega, by omega⟩
      have n1 : (FloatKind.f64.format.order q q != some .eq) = nan q := by rw [fmt_eq, bne, order_eqB, Fl.eq_self, Bool.not_not]
      have n2 : (FloatKind.f64.format.order (nrm q) (nrm q) != some .eq) = nan q := by rw [fmt_eq, bne, order_eqB, Fl.eq_self, Bool.not_not, nan_nrm]
      have n3 : (FloatKind.f64.format.order q q == some .eq) = !nan q := by rw [fmt_eq, order_eqB, Fl.eq_self]
      have hb1 := hbits q
      have hb2 := hbits (nrm q)
      clear hbits
      cases hq : nan q with
      | true =>
        rw [hq] at n1 n2 n3
        clear hq
        go_upto_region 12 with fail
        go_quiet (fail)
        have hY2 := below_drewN hY nq
        go_wp2_with fail
        exact ⟨⟨i + 1, by go_num, by omega, hY2⟩, by simp [intOf]; omega⟩
      | false =>
        have hn := nrm_num hq
        rw [hq] at n1 n2 n3
        rw [hn] at n2 hb2 c2
        clear hq hn
        go_upto_region 12 with fail
        go_quiet (fail)
        have hY2 := below_drewN hY nq
        go_wp2_with fail
        exact ⟨⟨i + 1, by go_num, by omega, hY2⟩, by simp [intOf]; omega⟩
    · have hlt' : ¬ (i : Int) < 2 := by omega
      go_wp2_with fail
      go_ret
      exact ⟨rfl, hend.out.trans (hY.mono hend.out.size)⟩
end Go.Proofs.YtkeiehgojclecaaDoor

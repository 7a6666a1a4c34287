/- The walks of package audit: counting. -/
import Derived.Test.YtfknaheijidhcaaAudX

import Derived.Test.YtfknaheijidhcaaAudC

import Derived.Test.YtfknaheijidhcaaOnly

import Derived.Deep.CutBlock

namespace Go.Proofs.Ytfknaheijidhcaa

open Go.RowKit

attribute [local go_sem ↓] Go.wp_at_zero Go.wp_at_succ

attribute [local go_sem ↓] run_field_slot0 run_field_slot1

/-- A count that lies at block N. -/
def CntAt (w : World) (N : Nat) (c : Cn) : Prop := w.heap[N]? = some (.cells #[.int .i64 c.f, .int .i64 c.t, .int .i64 c.l, .int .i64 c.o] 44 (0, 0))
section

variable {w : World} {N : Nat} {c : Cn}

theorem CntAt.set0 (h : CntAt w N c) (x : Int) : CntAt (w.setCell ⟨N, 0, .none⟩ (.int .i64 x)) N ⟨x, c.t, c.l, c.o⟩ := by unfold CntAt at *; rw [heap_setCell_same w N 0 _ _ _ h]; rfl
theorem CntAt.set1 (h : CntAt w N c) (x : Int) : CntAt (w.setCell ⟨N, 1, .none⟩ (.int .i64 x)) N ⟨c.f, x, c.l, c.o⟩ := by unfold CntAt at *; rw [heap_setCell_same w N 1 _ _ _ h]; rfl
theorem CntAt.set2 (h : CntAt w N c) (x : Int) : CntAt (w.setCell ⟨N, 2, .none⟩ (.int .i64 x)) N ⟨c.f, c.t, x, c.o⟩ := by unfold CntAt at *; rw [heap_setCell_same w N 2 _ _ _ h]; rfl
theorem CntAt.set3 (h : CntAt w N c) (x : Int) : CntAt (w.setCell ⟨N, 3, .none⟩ (.int .i64 x)) N ⟨c.f, c.t, c.l, x⟩ := by unfold CntAt at *; rw [heap_setCell_same w N 3 _ _ _ h]; rfl
theorem CntAt.c0 (h : CntAt w N c) : w.cell? ⟨N, 0, .none⟩ = some (.int .i64 c.f) := rowCells h 0
theorem CntAt.c1 (h : CntAt w N c) : w.cell? ⟨N, 1, .none⟩ = some (.int .i64 c.t) := rowCells h 1
theorem CntAt.c2 (h : CntAt w N c) : w.cell? ⟨N, 2, .none⟩ = some (.int .i64 c.l) := rowCells h 2
theorem CntAt.c3 (h : CntAt w N c) : w.cell? ⟨N, 3, .none⟩ = some (.int .i64 c.o) := rowCells h 3
theorem CntAt.fr (h : CntAt w N c) (i : Nat) : w.frozen? ⟨N, i, .none⟩ = false := rowFree h i
theorem CntAt.lt (h : CntAt w N c) : N < w.heap.size := (Array.getElem?_eq_some_iff.1 h).1
theorem CntAt.below {w' : World} (h : CntAt w N c) (hb : Below w.heap.size w w') : CntAt w' N c := (hb.block N h.lt).trans h
end

abbrev atN (N : Nat) : Nat → Prop := fun k => k = N

set_option maxHeartbeats 1000000 in
theorem add_any (w : World) (N : Nat) (c : Cn) (b : Bool) (k : Int) (hc : CntAt w N c) (hn : c.nn) (hs : c.sum ≤ 100000) (hk : 0 ≤ k ∧ k ≤ 100000) :
    Calls Try.prog 48 #[.pointer (some ⟨N, 0, .none⟩), .bool b, .int .i64 k] w fun e w' => e = .returned (.tuple #[]) ∧ Only (atN N) w w' ∧ CntAt w' N (c.add (heldC b k)) := by
  have hb := Cn.bd hn hs
  have c2 := hc.c2
  have c3 := hc.c3
  have f2 := hc.fr 2
  have f3 := hc.fr 3
  have w2 : IntKind.i64.wrap (c.l + k) = c.l + k := IntWalk.i64_in _ ⟨by omega, by omega⟩
  have w3 : IntKind.i64.wrap (c.o + k) = c.o + k := IntWalk.i64_in _ ⟨by omega, by omega⟩
  rcases Bool.eq_false_or_eq_true b with rfl | rfl
  · go_enter Try.func48, Try.ntmps48
    go_wp2
    go_end0
    refine ⟨rfl, (Only.refl (atN N) w).setCell (p := ⟨N, 2, .none⟩) (.inl rfl) _, ?_⟩
    have := hc.set2 (c.l + k)
    simpa [Cn.add, heldC] using this
  · go_enter Try.func48, Try.ntmps48
    go_wp2
    go_end0
    refine ⟨rfl, (Only.refl (atN N) w).setCell (p := ⟨N, 3, .none⟩) (.inl rfl) _, ?_⟩
    have := hc.set3 (c.o + k)
    simpa [Cn.add, heldC] using this

theorem Only.keepC {N : Nat} {w w' : World} (o : Only (atN N) w w') {b : Nat} (hb : b < w.heap.size) (hn : b ≠ N) (i : Nat) : w'.cell? ⟨b, i, .none⟩ = w.cell? ⟨b, i, .none⟩ := by
  have := o.block b hb hn
  simp only [World.cell?]
  rw [this]
theorem Only.below2 {N B : Nat} {w0 w w' : World} (h : Below B w0 w) (o : Only (atN N) w w') (hB : B ≤ w.heap.size) (hN : B ≤ N) : Below B w0 w' := h.trans (o.below hB fun k hk => by rw [hk]; exact hN)
theorem slots_bd2 (k : Int) (i : Nat) (h : (i : Int) ≤ slotsV k) : sizeV k * i ≤ 512 ∧ 0 ≤ sizeV k * i := by
  have h1 := size_bd k
  have h2 := slots_bd k
  have := mul_bd (c := sizeV k) (m := (i : Int)) (C := 32) (M := 16) (by omega) (by omega)
  omega

set_option maxRecDepth 100000 in
set_option maxHeartbeats 4000000 in
theorem bslots_any (h : Hp) (v : Value) (a k : Int) (w0 w : World) (N : Nat) (c : Cn) (b : Bok w0 v h) (ha : 0 ≤ a ∧ a < h.p) (hB : Below w0.heap.size w0 w) (hN : w0.heap.size ≤ N) (hc : CntAt w N c) (hn : c.nn) (hs : c.sum ≤ 5000) :
    Calls Try.prog 50 #[bookV h v, .int .i64 a, .int .i64 k, .pointer (some ⟨N, 0, .none⟩)] w fun e w' => e = .returned (.tuple #[]) ∧ Only (atN N) w w' ∧ CntAt w' N (c.add (h.slS a (sizeV k) (slotsV k).toNat)) := by
  have hsl := fun i X (hX : Below w0.heap.size w0 X) hi => slot_any h v a i X (b.below hX) ha hi
  have hlv := fun x X (hX : Below w0.heap.size w0 X) => lives_any h v x X (b.below hX)
  have hss := slots_any k
  have hsz := size_any k
  have hsb := slots_bd k
  have hzb := size_bd k
  have hb2 := fun i => slots_bd2 k i
  obtain ⟨q, hq⟩ : ∃ q : Nat, slotsV k = q := ⟨(slotsV k).toNat, by omega⟩
  rw [hq] at hss hsb hb2 ⊢
  rw [Int.toNat_natCast]
  generalize sizeV k = z at *
  have hS0 : c.add (h.slS a z 0) = c := Cn.add_zero c
  have hSS : ∀ i, c.add (h.slS a z (i + 1)) = (c.add (h.slS a z i)).add (h.slC a z i) := fun i => (Cn.add_assoc _ _ _).symm
  have hSn : ∀ i, (c.add (h.slS a z i)).nn := fun i => Cn.nn_add hn (h.slS_nn a hzb.1 i)
  have hSs : ∀ i : Nat, i ≤ q → (c.add (h.slS a z i)).sum ≤ 6000 := fun i hi => by
    have := hb2 i (by omega)
    rw [Cn.sum_add, h.slS_sum]; omega
  have hSl : ∀ i, h.slC a z i = if h.sk a i = 1 then ⟨z, 0, 0, 0⟩ else if h.sk a i = 3 then ⟨0, z, 0, 0⟩ else heldC (h.sk a i == 2 && h.lv (h.sa a i)) z := fun _ => rfl
  generalize hST : (fun i => c.add (h.slS a z i)) = T at *
  have hTi : ∀ i, c.add (h.slS a z i) = T i := fun i => by rw [← hST]
  simp only [hTi] at hS0 hSS hSn hSs ⊢
  clear hST hTi
  replace hsl := Lib.hid hsl
  replace hlv := Lib.hid hlv
  replace hss := Lib.hid hss
  replace hsz := Lib.hid hsz
  replace hS0 := Lib.hid hS0
  replace hSS := Lib.hid hSS
  replace hSn := Lib.hid hSn
  replace hSs := Lib.hid hSs
  replace hSl := Lib.hid hSl
  have hNlt := hc.lt
  clear hq hb2 b
  go_enter Try.func50, Try.ntmps50
  go_wp2_with fail
  refine (hsz.out _).mono ?_
  rintro e w2 ⟨rfl, hw⟩
  obtain rfl := hw.symm
  clear hw
  go_wp2_with fail
  refine (hss.out _).mono ?_
  rintro e w2 ⟨rfl, hw⟩
  obtain rfl := hw.symm
  clear hw
  obtain ⟨H, hH, hH'⟩ : ∃ H, Hid (H = w.heap.size) ∧ H = w.heap.size := ⟨_, Lib.hid rfl, rfl⟩
  have hHN : H ≠ N := by omega
  have g0 := heap_alloc_new w (.cells #[.int .i64 h.p, .int .i64 h.c, .int .i64 h.m, v] 72)
  have hW : Only (atN N) w (w.alloc (.cells #[.int .i64 h.p, .int .i64 h.c, .int .i64 h.m, v] 72)) := (Only.refl _ _).alloc _
  have hBW := hB.alloc hB.size (.cells #[.int .i64 h.p, .int .i64 h.c, .int .i64 h.m, v] 72)
  have hCW : CntAt (w.alloc (.cells #[.int .i64 h.p, .int .i64 h.c, .int .i64 h.m, v] 72)) N c := hc.below ((Below.refl _ _).alloc (Nat.le_refl _) _)
  have hHW : H < (w.alloc (.cells #[.int .i64 h.p, .int .i64 h.c, .int .i64 h.m, v] 72)).heap.size := by simp; omega
  have hHN' : N < (w.alloc (.cells #[.int .i64 h.p, .int .i64 h.c, .int .i64 h.m, v] 72)).heap.size := by simp; omega
  rw [← hH'] at g0 ⊢
  clear hH'
  generalize w.alloc (.cells #[.int .i64 h.p, .int .i64 h.c, .int .i64 h.m, v] 72) = W at *
  have c0 : W.cell? ⟨H, 0, .none⟩ = some (.int .i64 h.p) := rowCells g0 0
  have c1 : W.cell? ⟨H, 1, .none⟩ = some (.int .i64 h.c) := rowCells g0 1
  have c2 : W.cell? ⟨H, 2, .none⟩ = some (.int .i64 h.m) := rowCells g0 2
  have c3 : W.cell? ⟨H, 3, .none⟩ = some v := rowCells g0 3
  clear g0
  go_wp2_with fail
  go_loopw [15] (fun vi wr => ∃ i : Nat, i ≤ q ∧ vi = .int .i64 i ∧ Only (atN N) W wr ∧ CntAt wr N (T i)) (fun vi _ => q - (intOf vi).toNat)
  case atStart => exact ⟨0, Nat.zero_le _, rfl, Only.refl _ _, by rw [hS0.out]; exact hCW⟩
  case round =>
    obtain ⟨i, hi, rfl, hor, hcr⟩ := hrel
    have d0 := (hor.keepC hHW hHN 0).trans c0
    have d1 := (hor.keepC hHW hHN 1).trans c1
    have d2 := (hor.keepC hHW hHN 2).trans c2
    have d3 := (hor.keepC hHW hHN 3).trans c3
    have hBr := Only.below2 hBW hor hBW.size hN
    by_cases hlt : i < q
    · have hsa := hsl.out i wr hBr (by omega)
      have hstep := hSS.out i
      rw [hSl.out i] at hstep
      have hnn := hSn.out i
      have hss2 := hSs.out i hi
      have hbd := Cn.bd hnn hss2
      have hla := hlv.out (h.sa a i)
      generalize h.sk a i = k4 at *
      generalize h.sa a i = k5 at *
      generalize h.lv k5 = lb at *
      generalize T i = ci at *
      replace hsa := Lib.hid hsa
      replace hla := Lib.hid hla
      by_cases hk1 : k4 = 1
      · rw [if_pos hk1] at hstep
        subst hk1
        replace hstep := Lib.hid hstep
        go_wp2_with fail
        refine hsa.out.mono ?_
        rintro e w3 ⟨rfl, hb3⟩
        have hc3 := (hcr.below hb3).below ((Below.refl _ _).alloc (Nat.le_refl _) (.cells #[.int .i64 1, .int .i64 k5] 87))
        have o3 : Only (atN N) W (w3.alloc (.cells #[.int .i64 1, .int .i64 k5] 87)) := (hor.trans (Only.of_below hb3) (fun _ _ h => h)).alloc _
        have q0 := hc3.c0
        have q1 := hc3.fr 0
        have w4 : IntKind.i64.wrap (ci.f + z) = ci.f + z := IntWalk.i64_in _ ⟨by omega, by omega⟩
        go_wp2
        refine ⟨⟨i + 1, by omega, by go_num, o3.setCell (p := ⟨N, 0, .none⟩) (.inl rfl) _, ?_⟩, by simp [intOf]; omega⟩
        have := hc3.set0 (ci.f + z)
        rw [hstep.out]
        simpa [Cn.add] using this
      · by_cases hk3 : k4 = 3
        · rw [if_neg hk1, if_pos hk3] at hstep
          subst hk3
          replace hstep := Lib.hid hstep
          clear hk1
          go_wp2_with fail
          refine hsa.out.mono ?_
          rintro e w3 ⟨rfl, hb3⟩
          have hc3 := (hcr.below hb3).below ((Below.refl _ _).alloc (Nat.le_refl _) (.cells #[.int .i64 3, .int .i64 k5] 87))
          have o3 : Only (atN N) W (w3.alloc (.cells #[.int .i64 3, .int .i64 k5] 87)) := (hor.trans (Only.of_below hb3) (fun _ _ h => h)).alloc _
          have q0 := hc3.c1
          have q1 := hc3.fr 1
          have w4 : IntKind.i64.wrap (ci.t + z) = ci.t + z := IntWalk.i64_in _ ⟨by omega, by omega⟩
          go_wp2
          refine ⟨⟨i + 1, by omega, by go_num, o3.setCell (p := ⟨N, 1, .none⟩) (.inl rfl) _, ?_⟩, by simp [intOf]; omega⟩
          have := hc3.set1 (ci.t + z)
          rw [hstep.out]
          simpa [Cn.add] using this
        · rw [if_neg hk1, if_neg hk3] at hstep
          have hk1' : (k4 == 1) = false := by rw [beq_eq_false_iff_ne]; exact hk1
          have hk3' : (k4 == 3) = false := by rw [beq_eq_false_iff_ne]; exact hk3
          by_cases hk2 : k4 = 2
          · subst hk2
            replace hstep : T (i + 1) = ci.add (heldC lb z) := hstep
            replace hstep := Lib.hid hstep
            clear hk1 hk3
            go_wp2_with fail
            refine hsa.out.mono ?_
            rintro e w3 ⟨rfl, hb3⟩
            have hc3 := (hcr.below hb3).below ((Below.refl _ _).alloc (Nat.le_refl _) (.cells #[.int .i64 2, .int .i64 k5] 87))
            have o3 : Only (atN N) W (w3.alloc (.cells #[.int .i64 2, .int .i64 k5] 87)) := (hor.trans (Only.of_below hb3) (fun _ _ h => h)).alloc _
            have e0 := (o3.keepC hHW hHN 0).trans c0
            have e1 := (o3.keepC hHW hHN 1).trans c1
            have e2 := (o3.keepC hHW hHN 2).trans c2
            have e3 := (o3.keepC hHW hHN 3).trans c3
            have hB3 := Only.below2 hBW o3 hBW.size hN
            go_wp2_with fail
            refine (hla.out _ hB3).mono ?_
            rintro e w4 ⟨rfl, hb4⟩
            have hc4 := hc3.below hb4
            have o4 := o3.trans (Only.of_below hb4) (fun _ _ h => h)
            go_wp2_with fail
            refine (add_any _ N ci lb z hc4 hnn (by omega) (by omega)).mono ?_
            rintro e w5 ⟨rfl, o5, hc5⟩
            go_wp2
            exact ⟨⟨i + 1, by omega, by go_num, o4.trans o5 (fun _ _ h => h), by rw [hstep.out]; exact hc5⟩, by simp [intOf]; omega⟩
          · have hk2' : (k4 == 2) = false := by rw [beq_eq_false_iff_ne]; exact hk2
            rw [hk2', Bool.false_and] at hstep
            replace hstep := Lib.hid hstep
            clear hla
            go_wp2_with fail
            refine hsa.out.mono ?_
            rintro e w3 ⟨rfl, hb3⟩
            have hc3 := (hcr.below hb3).below ((Below.refl _ _).alloc (Nat.le_refl _) (.cells #[.int .i64 k4, .int .i64 k5] 87))
            have o3 : Only (atN N) W (w3.alloc (.cells #[.int .i64 k4, .int .i64 k5] 87)) := (hor.trans (Only.of_below hb3) (fun _ _ h => h)).alloc _
            go_wp2_with fail
            refine (add_any _ N ci false z hc3 hnn (by omega) (by omega)).mono ?_
            rintro e w5 ⟨rfl, o5, hc5⟩
            go_wp2
            exact ⟨⟨i + 1, by omega, by go_num, o3.trans o5 (fun _ _ h => h), by rw [hstep.out]; exact hc5⟩, by simp [intOf]; omega⟩
    · have hie : i = q := by omega
      subst hie
      clear hlt
      have hj0 : ¬ ((i : Int) < (i : Int)) := by omega
      go_wp2
      go_end0
      exact ⟨rfl, hW.trans hor (fun _ _ h => h), hcr⟩
end Go.Proofs.Ytfknaheijidhcaa

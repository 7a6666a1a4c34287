/- The walks of package audit: who holds a page, who lives, what is free. -/
import Derived.Test.YtfknaheijidhcaaAudW

import Derived.Deep.DrawnRows

namespace Go.Proofs.Ytfknaheijidhcaa

open Go.RowKit

attribute [local go_sem ↓] Go.wp_at_zero Go.wp_at_succ

theorem run_field_slot0 (a b : Int) (w : World) : (Instr.field 87 (.agg #[.int .i64 a, .int .i64 b]) 0).run Try.prog w = .ok (.int .i64 a) w := by kernel_rfl
theorem run_field_slot1 (a b : Int) (w : World) : (Instr.field 87 (.agg #[.int .i64 a, .int .i64 b]) 1).run Try.prog w = .ok (.int .i64 b) w := by kernel_rfl
attribute [local go_sem ↓] run_field_slot0 run_field_slot1

set_option maxHeartbeats 1000000 in
theorem lives_any (h : Hp) (v : Value) (x : Int) (w : World) (b : Bok w v h) :
    Calls Try.prog 49 #[bookV h v, .int .i64 x] w fun e w' => e = .returned (.bool (h.lv x)) ∧ Below w.heap.size w w' := by
  obtain ⟨b1, b2, b3, b4⟩ := b.bd
  have hcm := mul_bd (c := h.c) (m := h.m) (C := 12) (M := 8) (by omega) (by omega)
  have hst := planStatus_any h.p h.c h.m x
  by_cases hx : 0 ≤ x ∧ x ≤ h.c - 1
  · have hwi : wi x 0 (h.c - 1) = true := wi_iff.2 hx
    have hix : statusIx h.p h.c h.m x = x := by unfold statusIx; rw [if_pos ⟨b.may, hwi⟩]
    have hlv : h.lv x = liveB (wd h.xs x) := by unfold Hp.lv; rw [b.may, hwi]; rfl
    obtain ⟨g, off, cap, k, rfl, hcap, hg, hk, hkn, hc⟩ := b.word x (by omega) (by omega)
    have hw := h.wd_bd b.fit x
    have hrs := fun w => readStatus_any (wd h.xs x) w hw.1 hw.2
    rw [hlv]
    rw [hix] at hst
    unfold liveB
    subst hk
    generalize wd h.xs (k : Int) = z at *
    generalize kindV z = k1 at *
    generalize partV z 0 = k2 at *
    generalize h.xs.length = n at *
    have hk0 : (0 : Int) ≤ (k : Int) := by omega
    have hk1 : (k : Int) < (n : Int) := by omega
    have hne : g ≠ w.heap.size := by omega
    clear hix hlv hw b hwi
    rcases Bool.eq_false_or_eq_true (statusV k1 k2 == z) with hs | hs
    · rw [hs] at hrs ⊢
      replace hrs : ∀ w, Calls Try.prog 74 #[.int .u64 z] w fun e w' => Below w.heap.size w w' ∧ e = .returned (.tuple #[.int .i64 k1, .int .i64 k2]) := hrs
      clear hs
      replace hrs := Lib.hid hrs
      replace hst := Lib.hid hst
      go_enter Try.func49, Try.ntmps49
      go_wp2_with fail
      refine (hst.out _).mono ?_
      rintro e w1 ⟨rfl, hb1⟩
      have hBx : Below w.heap.size w w1 := ((Below.refl w.heap.size w).alloc (Nat.le_refl _) _).trans (hb1.mono (by simp))
      have q0 := keepF hb1 _ _ _ (rowCells (heap_alloc_new w (.cells #[.int .i64 h.p, .int .i64 h.c, .int .i64 h.m, .slice (some ⟨g, off, .none⟩) n cap] 72)) 3)
      have q1 := keepF hBx _ _ _ hc
      go_wp2_with fail
      refine (hrs.out _).mono ?_
      rintro e w2 ⟨hb2, rfl⟩
      have hBy := hBx.trans (hb2.mono hBx.size)
      go_wp2
      go_ret
      exact ⟨by rw [Bool.true_and]; rfl, hBy⟩
    · rw [hs] at hrs ⊢
      replace hrs : ∀ w, Calls Try.prog 74 #[.int .u64 z] w fun e w' => Below w.heap.size w w' ∧ e = .returned (.tuple #[.int .i64 0, .int .i64 0]) := hrs
      clear hs
      replace hrs := Lib.hid hrs
      replace hst := Lib.hid hst
      go_enter Try.func49, Try.ntmps49
      go_wp2_with fail
      refine (hst.out _).mono ?_
      rintro e w1 ⟨rfl, hb1⟩
      have hBx : Below w.heap.size w w1 := ((Below.refl w.heap.size w).alloc (Nat.le_refl _) _).trans (hb1.mono (by simp))
      have q0 := keepF hb1 _ _ _ (rowCells (heap_alloc_new w (.cells #[.int .i64 h.p, .int .i64 h.c, .int .i64 h.m, .slice (some ⟨g, off, .none⟩) n cap] 72)) 3)
      have q1 := keepF hBx _ _ _ hc
      go_wp2_with fail
      refine (hrs.out _).mono ?_
      rintro e w2 ⟨hb2, rfl⟩
      have hBy := hBx.trans (hb2.mono hBx.size)
      go_wp2
      go_ret
      exact ⟨rfl, hBy⟩
  · have hwi : wi x 0 (h.c - 1) = false := wi_false.2 hx
    have hix : statusIx h.p h.c h.m x = -1 := by unfold statusIx; rw [if_neg (fun h => by rw [hwi] at h; exact Bool.false_ne_true h.2)]
    have hlv : h.lv x = false := by unfold Hp.lv; rw [hwi, Bool.and_false]; rfl
    rw [hlv]
    rw [hix] at hst
    replace hst := Lib.hid hst
    clear hix hlv hwi
    go_enter Try.func49, Try.ntmps49
    go_wp2_with fail
    refine (hst.out _).mono ?_
    rintro e w1 ⟨rfl, hb1⟩
    have hBx : Below w.heap.size w w1 := ((Below.refl w.heap.size w).alloc (Nat.le_refl _) _).trans (hb1.mono (by simp))
    go_wp2
    go_ret
    exact ⟨rfl, hBx⟩

set_option maxHeartbeats 2000000 in
theorem holder_any (h : Hp) (v : Value) (a : Int) (w : World) (b : Bok w v h) (ha : 0 ≤ a ∧ a < h.p) :
    Calls Try.prog 47 #[bookV h v, .int .i64 a] w fun e w' => e = .returned (.tuple #[.int .i64 (h.hc a), .bool (h.hb a)]) ∧ Below w.heap.size w w' := by
  have hbd := Hp.hd_in (h := h) ha.1 ha.2
  have hp1 := fun X hX => page_any h v a X (b.below hX) ha
  have hp2 := fun X hX => page_any h v (h.hd a) X (b.below hX) hbd
  have e1 : h.hc a = if h.hb a = true then h.pa (h.hd a) else 0 := rfl
  have e2 : h.hb a = (h.pb (h.hd a) && h.pk (h.hd a) == 1) := rfl
  by_cases h4 : (h.pb a && h.pk a == 4) = true
  · have e3 : h.hd a = h.pa a := by unfold Hp.hd; rw [if_pos h4]
    rw [e1, e2]
    rw [e3] at hp2 ⊢
    have h5 := h4
    rw [Bool.and_eq_true, beq_iff_eq] at h5
    rw [h5.1, h5.2] at hp1
    generalize h.pa a = q at *
    generalize h.pn a = q' at *
    generalize h.pk q = k1 at *
    generalize h.pa q = k2 at *
    generalize h.pn q = k3 at *
    generalize h.pb q = k4 at *
    replace hp1 := Lib.hid hp1
    replace hp2 := Lib.hid hp2
    clear e1 e2 e3 h4 h5 hbd b
    have hk4 := Bool.eq_false_or_eq_true k4
    have hk1 := Decidable.em (k1 = 1)
    rcases hk4 with rfl | rfl <;> rcases hk1 with hk | hk <;>
    · first
        | (have hk' : (k1 == 1) = true := by rw [beq_iff_eq]; exact hk)
        | (have hk' : (k1 == 1) = false := by rw [beq_eq_false_iff_ne]; exact hk)
      rw [hk']
      replace hk' := Lib.hid hk'
      go_enter Try.func47, Try.ntmps47
      go_wp2_with fail
      refine (hp1.out _ ((Below.refl _ _).alloc (Nat.le_refl _) _)).mono ?_
      rintro e w1 ⟨rfl, hb1⟩
      have hBx : Below w.heap.size w w1 := ((Below.refl w.heap.size w).alloc (Nat.le_refl _) _).trans (hb1.mono (by simp))
      have g0 := (hb1.block _ (by simp)).trans (heap_alloc_new w (.cells #[.int .i64 h.p, .int .i64 h.c, .int .i64 h.m, v] 72))
      have hBz : Below w.heap.size w (w1.alloc (.cells #[.int .i64 4, .int .i64 q, .int .i64 q'] 79)) := hBx.alloc hBx.size _
      have hz := hBx.size
      have g1 := heap_alloc_new w1 (.cells #[.int .i64 4, .int .i64 q, .int .i64 q'] 79)
      have hlt := (Array.getElem?_eq_some_iff.1 g0).1
      have c0 := rowCells g0 0
      have c1 := rowCells g0 1
      have c2 := rowCells g0 2
      have c3 := rowCells g0 3
      go_wp2_with fail
      refine (hp2.out _ hBz).mono ?_
      rintro e w2 ⟨rfl, hb2⟩
      have g2 := (hb2.block _ (by simp)).trans g1
      have hBy := hBz.trans (hb2.mono hBz.size)
      have hlt2 : w1.heap.size < w2.heap.size := (Array.getElem?_eq_some_iff.1 g2).1
      have p0 := rowCells g2 0
      have p1 := rowCells g2 1
      have p2 := rowCells g2 2
      have fP := rowFree g2
      clear g0 g1 g2
      go_wp2
      go_ret2
      exact ⟨rfl, ((hBy.setCell (by simp; omega) _).setCell (by simp; omega) _).setCell (by simp; omega) _⟩
  · have e3 : h.hd a = a := by unfold Hp.hd; rw [if_neg h4]
    rw [e1, e2]
    rw [e3]
    have h5 : h.pb a = false ∨ (h.pb a = true ∧ h.pk a ≠ 4) := by
      rcases Bool.eq_false_or_eq_true (h.pb a) with h | h
      · right; refine ⟨h, fun e => h4 ?_⟩; rw [h, e]; rfl
      · exact .inl h
    clear e1 e2 e3 h4 hbd hp2 b
    generalize h.pk a = k1 at *
    generalize h.pa a = k2 at *
    generalize h.pn a = k3 at *
    rcases h5 with h5 | ⟨h5, h6⟩
    · rw [h5] at hp1 ⊢
      replace hp1 := Lib.hid hp1
      clear h5
      go_enter Try.func47, Try.ntmps47
      go_wp2_with fail
      refine (hp1.out _ ((Below.refl _ _).alloc (Nat.le_refl _) _)).mono ?_
      rintro e w1 ⟨rfl, hb1⟩
      have hBx : Below w.heap.size w w1 := ((Below.refl w.heap.size w).alloc (Nat.le_refl _) _).trans (hb1.mono (by simp))
      have hBz : Below w.heap.size w (w1.alloc (.cells #[.int .i64 k1, .int .i64 k2, .int .i64 k3] 79)) := hBx.alloc hBx.size _
      go_wp2
      go_ret2
      exact ⟨rfl, hBz⟩
    · rw [h5] at hp1 ⊢
      replace hp1 := Lib.hid hp1
      clear h5
      have h6' : (k1 == 4) = false := by rw [beq_eq_false_iff_ne]; exact h6
      have hk1 := Decidable.em (k1 = 1)
      rcases hk1 with hk | hk <;>
      · first
          | (have hk' : (k1 == 1) = true := by rw [beq_iff_eq]; exact hk)
          | (have hk' : (k1 == 1) = false := by rw [beq_eq_false_iff_ne]; exact hk)
        rw [hk']
        replace hk' := Lib.hid hk'
        go_enter Try.func47, Try.ntmps47
        go_wp2_with fail
        refine (hp1.out _ ((Below.refl _ _).alloc (Nat.le_refl _) _)).mono ?_
        rintro e w1 ⟨rfl, hb1⟩
        have hBx : Below w.heap.size w w1 := ((Below.refl w.heap.size w).alloc (Nat.le_refl _) _).trans (hb1.mono (by simp))
        go_wp2
        go_ret2
        exact ⟨rfl, hBx.alloc hBx.size _⟩

set_option maxHeartbeats 2000000 in
theorem free_any (h : Hp) (v : Value) (a : Int) (w : World) (b : Bok w v h) (ha : 0 ≤ a ∧ a < h.p) :
    Calls Try.prog 39 #[bookV h v, .int .i64 a] w fun e w' => e = .returned (.bool (h.fr a)) ∧ Below w.heap.size w w' := by
  have hp1 := fun X hX => page_any h v a X (b.below hX) ha
  have hsl := fun i X (hX : Below w.heap.size w X) hi => slot_any h v a i X (b.below hX) ha hi
  have e1 : h.fr a = if (h.pb a && h.pk a == 2) = true then h.op a (slotsV (h.pa a)).toNat else h.pb a && h.pk a == 0 := rfl
  by_cases h2 : (h.pb a && h.pk a == 2) = true
  · have hsb := slots_bd (h.pa a)
    rw [e1, if_pos h2]
    have h5 := h2
    rw [Bool.and_eq_true, beq_iff_eq] at h5
    rw [h5.1, h5.2] at hp1
    obtain ⟨q, hq⟩ : ∃ q : Nat, slotsV (h.pa a) = q := ⟨(slotsV (h.pa a)).toNat, by omega⟩
    have hs := slots_any (h.pa a)
    rw [hq] at hs hsb ⊢
    rw [Int.toNat_natCast]
    generalize h.pa a = k2 at *
    generalize h.pn a = k3 at *
    have hop0 : h.op a 0 = true := rfl
    have hopS : ∀ i, h.op a (i + 1) = (h.op a i && h.sk a i == 1) := fun _ => rfl
    have hopF : ∀ i j, i ≤ j → h.op a i = false → h.op a j = false := fun i j hij => by
      induction hij with
      | refl => exact id
      | step _ ih => intro hf; rw [hopS, ih hf]; rfl
    replace hp1 := Lib.hid hp1
    replace hsl := Lib.hid hsl
    replace hs := Lib.hid hs
    replace hopS := Lib.hid hopS
    replace hopF := Lib.hid hopF
    replace hop0 := Lib.hid hop0
    clear e1 h2 h5 hq b
    go_enter Try.func39, Try.ntmps39
    go_wp2_with fail
    refine (hp1.out _ ((Below.refl _ _).alloc (Nat.le_refl _) _)).mono ?_
    rintro e w1 ⟨rfl, hb1⟩
    have hBx : Below w.heap.size w w1 := ((Below.refl w.heap.size w).alloc (Nat.le_refl _) _).trans (hb1.mono (by simp))
    have g0 := (hb1.block _ (by simp)).trans (heap_alloc_new w (.cells #[.int .i64 h.p, .int .i64 h.c, .int .i64 h.m, v] 72))
    have hBz : Below w.heap.size w (w1.alloc (.cells #[.int .i64 2, .int .i64 k2, .int .i64 k3] 79)) := hBx.alloc hBx.size _
    have hlt := (Array.getElem?_eq_some_iff.1 g0).1
    have hBy : Below w1.heap.size w1 (w1.alloc (.cells #[.int .i64 2, .int .i64 k2, .int .i64 k3] 79)) := (Below.refl _ _).alloc (Nat.le_refl _) _
    have c0 : (w1.alloc (.cells #[.int .i64 2, .int .i64 k2, .int .i64 k3] 79)).cell? ⟨w.heap.size, 0, .none⟩ = some (.int .i64 h.p) := keepF hBy _ _ _ (rowCells g0 0)
    have c1 : (w1.alloc (.cells #[.int .i64 2, .int .i64 k2, .int .i64 k3] 79)).cell? ⟨w.heap.size, 1, .none⟩ = some (.int .i64 h.c) := keepF hBy _ _ _ (rowCells g0 1)
    have c2 : (w1.alloc (.cells #[.int .i64 2, .int .i64 k2, .int .i64 k3] 79)).cell? ⟨w.heap.size, 2, .none⟩ = some (.int .i64 h.m) := keepF hBy _ _ _ (rowCells g0 2)
    have c3 : (w1.alloc (.cells #[.int .i64 2, .int .i64 k2, .int .i64 k3] 79)).cell? ⟨w.heap.size, 3, .none⟩ = some (v) := keepF hBy _ _ _ (rowCells g0 3)
    go_wp2_with fail
    refine (hs.out _).mono ?_
    rintro e w2 ⟨rfl, hw⟩
    obtain rfl := hw.symm
    clear hw
    clear hb1 g0 hBx hBy
    generalize w1.alloc (.cells #[.int .i64 2, .int .i64 k2, .int .i64 k3] 79) = W at *
    generalize hHH : w.heap.size = H at c0 c1 c2 c3 ⊢
    replace hHH := Lib.hid hHH
    go_wp2_with fail
    go_loopw [30] (fun vi wr => ∃ i : Nat, i ≤ q ∧ vi = .int .i64 i ∧ Hid (h.op a i = true) ∧ Below W.heap.size W wr) (fun vi _ => q - (intOf vi).toNat)
    case atStart => exact ⟨0, Nat.zero_le _, rfl, hop0, Below.refl _ _⟩
    case round =>
      obtain ⟨i, hi, rfl, hoi, hbr⟩ := hrel
      have d0 := keepF hbr _ _ _ c0
      have d1 := keepF hbr _ _ _ c1
      have d2 := keepF hbr _ _ _ c2
      have d3 := keepF hbr _ _ _ c3
      have hBr := hBz.trans (hbr.mono hBz.size)
      by_cases hlt : i < q
      · have hstep := hopS.out i
        rw [hoi.out, Bool.true_and] at hstep
        have hsa := hsl.out i wr hBr (by omega)
        have hff := hopF.out (i + 1) q (by omega)
        generalize h.sk a i = k4 at *
        generalize h.sa a i = k5 at *
        replace hsa := Lib.hid hsa
        by_cases hk : k4 = 1
        · have hk' : (k4 == 1) = true := by rw [beq_iff_eq]; exact hk
          rw [hk'] at hstep
          replace hstep := Lib.hid hstep
          subst hk
          clear hff hk'
          go_wp2_with fail
          refine hsa.out.mono ?_
          rintro e w3 ⟨rfl, hb3⟩
          go_wp2
          exact ⟨⟨i + 1, by omega, by go_num, hstep, hbr.trans (hb3.mono hbr.size)⟩, by simp [intOf]; omega⟩
        · have hk' : (k4 == 1) = false := by rw [beq_eq_false_iff_ne]; exact hk
          rw [hk'] at hstep
          have hfin := Lib.hid (hff hstep)
          clear hff hstep
          go_wp2_with fail
          refine hsa.out.mono ?_
          rintro e w3 ⟨rfl, hb3⟩
          go_wp2
          go_ret
          exact ⟨by rw [hfin.out]; rfl, hHH.out ▸ hBr.trans (hb3.mono hBr.size)⟩
      · have hie : i = q := by omega
        subst hie
        clear hlt
        have hj0 : ¬ ((i : Int) < (i : Int)) := by omega
        go_wp2
        go_ret
        exact ⟨by rw [hoi.out]; rfl, hHH.out ▸ hBr⟩
  · rw [e1, if_neg h2]
    have h5 : h.pb a = false ∨ (h.pb a = true ∧ h.pk a ≠ 2) := by
      rcases Bool.eq_false_or_eq_true (h.pb a) with h | h
      · right; refine ⟨h, fun e => h2 ?_⟩; rw [h, e]; rfl
      · exact .inl h
    clear e1 h2 b hsl
    generalize h.pk a = k1 at *
    generalize h.pa a = k2 at *
    generalize h.pn a = k3 at *
    rcases h5 with h5 | ⟨h5, h6⟩
    · rw [h5] at hp1 ⊢
      replace hp1 := Lib.hid hp1
      clear h5
      go_enter Try.func39, Try.ntmps39
      go_wp2_with fail
      refine (hp1.out _ ((Below.refl _ _).alloc (Nat.le_refl _) _)).mono ?_
      rintro e w1 ⟨rfl, hb1⟩
      have hBx : Below w.heap.size w w1 := ((Below.refl w.heap.size w).alloc (Nat.le_refl _) _).trans (hb1.mono (by simp))
      go_wp2
      go_ret
      exact ⟨rfl, hBx.alloc hBx.size _⟩
    · rw [h5] at hp1 ⊢
      replace hp1 := Lib.hid hp1
      clear h5
      have h6' : (k1 != 2) = true := by simpa using h6
      have hk1 := Decidable.em (k1 = 0)
      rcases hk1 with hk | hk <;>
      · first
          | (have hk' : (k1 == 0) = true := by rw [beq_iff_eq]; exact hk)
          | (have hk' : (k1 == 0) = false := by rw [beq_eq_false_iff_ne]; exact hk)
        rw [hk']
        replace hk' := Lib.hid hk'
        go_enter Try.func39, Try.ntmps39
        go_wp2_with fail
        refine (hp1.out _ ((Below.refl _ _).alloc (Nat.le_refl _) _)).mono ?_
        rintro e w1 ⟨rfl, hb1⟩
        have hBx : Below w.heap.size w w1 := ((Below.refl w.heap.size w).alloc (Nat.le_refl _) _).trans (hb1.mono (by simp))
        go_wp2
        go_ret
        exact ⟨by first | rfl | (rw [Bool.true_and, ← hk'.out]; rfl), hBx.alloc hBx.size _⟩
end Go.Proofs.Ytfknaheijidhcaa

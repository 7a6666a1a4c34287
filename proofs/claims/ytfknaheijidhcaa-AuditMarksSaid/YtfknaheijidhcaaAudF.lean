/- Soundness of a heap's pages: the walks of row and sound. -/
import Derived.Test.YtfknaheijidhcaaAudE

namespace Go.Proofs.Ytfknaheijidhcaa

open Go.RowKit

attribute [local go_sem ↓] Go.wp_at_zero Go.wp_at_succ

set_option maxRecDepth 100000 in
set_option maxHeartbeats 4000000 in
theorem row_any (h : Hp) (v : Value) (a n : Int) (w : World) (b : Bok w v h) (ha : 0 ≤ a ∧ a < h.p) (hn : 1 ≤ n ∧ n ≤ 8 ∧ n ≤ h.p - a) :
    Calls Try.prog 77 #[bookV h v, .int .i64 a, .int .i64 n] w fun e w' => e = .returned (.bool (h.rowB a n)) ∧ Below w.heap.size w w' := by
  obtain ⟨b1, _, _, _⟩ := b.bd
  obtain ⟨ao, cap, hv, _, _, _⟩ := b.rd.cells
  generalize h.xs.length = m at hv
  subst hv
  have hpg := fun q X (hX : Below w.heap.size w X) hq => page_any h (.slice ao m cap) q X (b.below hX) hq
  obtain ⟨N, hN⟩ : ∃ N : Nat, n - 1 = N := ⟨(n - 1).toNat, by omega⟩
  have hS0 : Hid (h.rowT a 0 = true) := Lib.hid rfl
  have hSS : Hid (∀ i : Nat, h.rowT a (i + 1) = (h.rowT a i && (h.pk (a + 1 + i) == 4 && h.pa (a + 1 + i) == a))) := Lib.hid fun _ => rfl
  have hSM : Hid (∀ i, i ≤ N → h.rowT a i = false → h.rowB a n = false) := Lib.hid fun i hi hf => by
    unfold Hp.rowB
    exact h.rowT_mono a (by omega) hf
  have hSE : Hid (h.rowT a N = h.rowB a n) := Lib.hid (by unfold Hp.rowB; rw [hN, Int.toNat_natCast])
  replace hN := Lib.hid hN
  replace hpg := Lib.hid hpg
  have wa : IntKind.i64.wrap (a + 1) = a + 1 := IntWalk.i64_in _ ⟨by omega, by omega⟩
  have wn : IntKind.i64.wrap (a + n) = a + n := IntWalk.i64_in _ ⟨by omega, by omega⟩
  clear b
  go_enter Try.func77, Try.ntmps77
  have g0 := heap_alloc_new w (.cells #[.int .i64 h.p, .int .i64 h.c, .int .i64 h.m, .slice ao m cap] 72)
  have hB0 : Below w.heap.size w (w.alloc (.cells #[.int .i64 h.p, .int .i64 h.c, .int .i64 h.m, .slice ao m cap] 72)) := (Below.refl _ _).alloc (Nat.le_refl _) _
  go_upto_region 1 with fail
  obtain ⟨H, hH, hH'⟩ : ∃ H, Hid (H = w.heap.size) ∧ H = w.heap.size := ⟨_, Lib.hid rfl, rfl⟩
  rw [← hH'] at g0 ⊢
  clear hH'
  generalize w.alloc (.cells #[.int .i64 h.p, .int .i64 h.c, .int .i64 h.m, .slice ao m cap] 72) = W at *
  have c0 : W.cell? ⟨H, 0, .none⟩ = some (.int .i64 h.p) := rowCells g0 0
  have c1 : W.cell? ⟨H, 1, .none⟩ = some (.int .i64 h.c) := rowCells g0 1
  have c2 : W.cell? ⟨H, 2, .none⟩ = some (.int .i64 h.m) := rowCells g0 2
  have c3 : W.cell? ⟨H, 3, .none⟩ = some (.slice ao m cap) := rowCells g0 3
  clear g0
  go_wp2_with fail
  go_loopw [7] (fun vi wr => ∃ i : Nat, i ≤ N ∧ vi = .int .i64 (a + 1 + i) ∧ Hid (h.rowT a i = true) ∧ Below W.heap.size W wr) (fun vi _ => (a + n - intOf vi).toNat)
  case atStart => exact ⟨0, Nat.zero_le _, by simp, hS0, Below.refl _ _⟩
  case round =>
    obtain ⟨i, hi, rfl, hoi, hbr⟩ := hrel
    have d0 := keepF hbr _ _ _ c0
    have d1 := keepF hbr _ _ _ c1
    have d2 := keepF hbr _ _ _ c2
    have d3 := keepF hbr _ _ _ c3
    have hBr := hB0.trans (hbr.mono hB0.size)
    by_cases hlt : i < N
    · have hq : a + 1 + (i : Int) < a + n := by have := hN.out; omega
      have hpx := hpg.out (a + 1 + i) wr hBr (by omega)
      have hstep := hSS.out i
      rw [hoi.out, Bool.true_and] at hstep
      have hff := hSM.out (i + 1) (by omega)
      have wq : IntKind.i64.wrap (a + 1 + (i : Int) + 1) = a + 1 + (i : Int) + 1 := IntWalk.i64_in _ ⟨by omega, by omega⟩
      generalize h.pk (a + 1 + i) = k1 at *
      generalize h.pa (a + 1 + i) = k2 at *
      generalize h.pn (a + 1 + i) = k3 at *
      generalize h.pb (a + 1 + i) = k4 at *
      replace hpx := Lib.hid hpx
      have fin : Hid (∀ X, Below W.heap.size W X → h.rowT a (i + 1) = true → (∃ j : Nat, j ≤ N ∧ Value.int .i64 (a + 1 + (i : Int) + 1) = .int .i64 (a + 1 + j) ∧ Hid (h.rowT a j = true) ∧ Below W.heap.size W X) ∧ (a + n - (a + 1 + (i : Int) + 1)).toNat < (a + n - (a + 1 + (i : Int))).toNat) :=
        Lib.hid fun X hX ht => ⟨⟨i + 1, by omega, by congr 1; omega, Lib.hid ht, hX⟩, by omega⟩
      by_cases hk1 : k1 = 4
      · by_cases hk2 : k2 = a
        · have ht : h.rowT a (i + 1) = true := by rw [hstep, hk1, hk2]; simp
          subst hk1 hk2
          replace ht := Lib.hid ht
          clear hstep hff
          go_wp2_with fail
          refine hpx.out.mono ?_
          rintro e w3 ⟨rfl, hb3⟩
          go_wp2
          exact fin.out _ ((hbr.trans (hb3.mono hbr.size)).alloc (Nat.le_trans hbr.size hb3.size) _) ht.out
        · have hk2' : (k2 == a) = false := by rw [beq_eq_false_iff_ne]; exact hk2
          have ht := hff (by rw [hstep, hk2', Bool.and_false])
          have hk2'' : (k2 != a) = true := by simpa using hk2
          subst hk1
          replace ht := Lib.hid ht
          clear hstep hff fin
          go_wp2_with fail
          refine hpx.out.mono ?_
          rintro e w3 ⟨rfl, hb3⟩
          go_wp2
          go_ret
          exact ⟨by rw [ht.out]; rfl, (hBr.trans (hb3.mono hBr.size)).alloc (Nat.le_trans hBr.size hb3.size) _⟩
      · have hk1' : (k1 == 4) = false := by rw [beq_eq_false_iff_ne]; exact hk1
        have ht := hff (by rw [hstep, hk1', Bool.false_and])
        have hk1'' : (k1 != 4) = true := by simpa using hk1
        replace ht := Lib.hid ht
        clear hstep hff fin
        go_wp2_with fail
        refine hpx.out.mono ?_
        rintro e w3 ⟨rfl, hb3⟩
        go_wp2
        go_ret
        exact ⟨by rw [ht.out]; rfl, (hBr.trans (hb3.mono hBr.size)).alloc (Nat.le_trans hBr.size hb3.size) _⟩
    · have hie : i = N := by omega
      subst hie
      clear hlt
      have hq : ¬ (a + 1 + (i : Int) < a + n) := by have := hN.out; omega
      go_wp2
      go_ret
      exact ⟨by rw [← hSE.out, hoi.out]; rfl, hBr⟩

set_option maxRecDepth 100000 in
set_option maxHeartbeats 8000000 in
theorem sound_any (h : Hp) (v : Value) (a : Int) (w : World) (b : Bok w v h) (ha : 0 ≤ a ∧ a < h.p) :
    Calls Try.prog 51 #[bookV h v, .int .i64 a] w fun e w' => e = .returned (.bool (h.snd a)) ∧ Below w.heap.size w w' := by
  obtain ⟨b1, _, _, _⟩ := b.bd
  obtain ⟨ao, cap, hv, _, _, _⟩ := b.rd.cells
  generalize h.xs.length = m at hv
  subst hv
  have hpg := fun X (hX : Below w.heap.size w X) => page_any h (.slice ao m cap) a X (b.below hX) ha
  have hpq := fun q X (hX : Below w.heap.size w X) hq => page_any h (.slice ao m cap) q X (b.below hX) hq
  have hsu := fun k X (hX : Below w.heap.size w X) => super_any h (.slice ao m cap) a k X (b.below hX) ha
  have hba := fun X (hX : Below w.heap.size w X) => bare_any h (.slice ao m cap) a X (b.below hX) ha
  have hro := fun n X (hX : Below w.heap.size w X) hn => row_any h (.slice ao m cap) a n X (b.below hX) ha hn
  have hk3 := Hp.kind3 (h := h) (a := a)
  have hk4 := Hp.kind4 (h := h) (a := a)
  have hbd := h.page_bd a
  have hs : h.snd a = if h.pb a = true then
    (if h.pk a = 2 then h.sup a (h.pa a)
     else if h.pk a = 3 then h.bare a && h.rowB a (h.pa a)
     else if h.pk a = 4 then h.bare a && (h.pk (h.pa a) == 1 || (h.pk (h.pa a) == 3 && decide (a < h.pa a + h.pa (h.pa a))))
     else if h.pk a = 0 then h.bare a
     else true)
  else false := rfl
  generalize h.pk a = k1 at *
  generalize h.pa a = k2 at *
  generalize h.pn a = k3 at *
  generalize h.pb a = kb at *
  generalize h.bare a = bb at *
  rw [hs]
  clear hs b
  replace hpg := Lib.hid hpg
  replace hpq := Lib.hid hpq
  replace hsu := Lib.hid hsu
  replace hba := Lib.hid hba
  replace hro := Lib.hid hro
  rcases Bool.eq_false_or_eq_true kb with hkb | hkb
  case inr =>
    subst hkb
    · rw [if_neg Bool.false_ne_true]
      clear hk3 hk4
      go_enter Try.func51, Try.ntmps51
      go_wp2_with fail
      refine (hpg.out _ ((Below.refl _ _).alloc (Nat.le_refl _) _)).mono ?_
      rintro e w1 ⟨rfl, hb1⟩
      have hBx : Below w.heap.size w w1 := ((Below.refl w.heap.size w).alloc (Nat.le_refl _) _).trans (hb1.mono (by simp))
      go_wp2
      go_ret
      exact ⟨rfl, hBx.alloc hBx.size _⟩
  case inl =>
    subst hkb
    rw [if_pos rfl]
    by_cases q2 : k1 = 2
    · rw [if_pos q2]
      subst q2
      clear hk3 hk4
      go_enter Try.func51, Try.ntmps51
      go_wp2_with fail
      refine (hpg.out _ ((Below.refl _ _).alloc (Nat.le_refl _) _)).mono ?_
      rintro e w1 ⟨rfl, hb1⟩
      have hBx : Below w.heap.size w w1 := ((Below.refl w.heap.size w).alloc (Nat.le_refl _) _).trans (hb1.mono (by simp))
      have g0 := (hb1.block _ (by simp)).trans (heap_alloc_new w (.cells #[.int .i64 h.p, .int .i64 h.c, .int .i64 h.m, .slice ao m cap] 72))
      have g1 := heap_alloc_new w1 (.cells #[.int .i64 2, .int .i64 k2, .int .i64 k3] 79)
      have hBy : Below w1.heap.size w1 (w1.alloc (.cells #[.int .i64 2, .int .i64 k2, .int .i64 k3] 79)) := (Below.refl _ _).alloc (Nat.le_refl _) _
      have g0 := (hBy.block _ (Array.getElem?_eq_some_iff.1 g0).1).trans g0
      have hBz : Below w.heap.size w (w1.alloc (.cells #[.int .i64 2, .int .i64 k2, .int .i64 k3] 79)) := hBx.trans (hBy.mono hBx.size)
      go_upto_region 2 with fail
      obtain ⟨H, hH, hH'⟩ : ∃ H, Hid (H = w.heap.size) ∧ H = w.heap.size := ⟨_, Lib.hid rfl, rfl⟩
      rw [← hH'] at g0 ⊢
      clear hH' hBy hBx hb1
      generalize w1.heap.size = G at g1 ⊢
      generalize w1.alloc (.cells #[.int .i64 2, .int .i64 k2, .int .i64 k3] 79) = W at *
      have c0 : W.cell? ⟨H, 0, .none⟩ = some (.int .i64 h.p) := rowCells g0 0
      have c1 : W.cell? ⟨H, 1, .none⟩ = some (.int .i64 h.c) := rowCells g0 1
      have c2 : W.cell? ⟨H, 2, .none⟩ = some (.int .i64 h.m) := rowCells g0 2
      have c3 : W.cell? ⟨H, 3, .none⟩ = some (.slice ao m cap) := rowCells g0 3
      have p0 : W.cell? ⟨G, 0, .none⟩ = some (.int .i64 2) := rowCells g1 0
      have p1 : W.cell? ⟨G, 1, .none⟩ = some (.int .i64 k2) := rowCells g1 1
      clear g0 g1
      go_wp2_with fail
      refine (hsu.out k2 _ hBz).mono ?_
      rintro e w2 ⟨rfl, hb2⟩
      go_wp2
      go_ret
      exact ⟨rfl, hBz.trans (hb2.mono hBz.size)⟩
    rw [if_neg q2]
    by_cases q3 : k1 = 3
    · rw [if_pos q3]
      subst q3
      have hk := hk3 (by simp)
      clear hk3 hk4 q2
      have hro' := fun X hX => hro.out k2 X hX hk
      generalize h.rowB a k2 = rb at *
      replace hro' := Lib.hid hro'
      go_enter Try.func51, Try.ntmps51
      go_wp2_with fail
      refine (hpg.out _ ((Below.refl _ _).alloc (Nat.le_refl _) _)).mono ?_
      rintro e w1 ⟨rfl, hb1⟩
      have hBx : Below w.heap.size w w1 := ((Below.refl w.heap.size w).alloc (Nat.le_refl _) _).trans (hb1.mono (by simp))
      have g0 := (hb1.block _ (by simp)).trans (heap_alloc_new w (.cells #[.int .i64 h.p, .int .i64 h.c, .int .i64 h.m, .slice ao m cap] 72))
      have g1 := heap_alloc_new w1 (.cells #[.int .i64 3, .int .i64 k2, .int .i64 k3] 79)
      have hBy : Below w1.heap.size w1 (w1.alloc (.cells #[.int .i64 3, .int .i64 k2, .int .i64 k3] 79)) := (Below.refl _ _).alloc (Nat.le_refl _) _
      have g0 := (hBy.block _ (Array.getElem?_eq_some_iff.1 g0).1).trans g0
      have hBz : Below w.heap.size w (w1.alloc (.cells #[.int .i64 3, .int .i64 k2, .int .i64 k3] 79)) := hBx.trans (hBy.mono hBx.size)
      go_upto_region 2 with fail
      obtain ⟨H, hH, hH'⟩ : ∃ H, Hid (H = w.heap.size) ∧ H = w.heap.size := ⟨_, Lib.hid rfl, rfl⟩
      rw [← hH'] at g0 ⊢
      clear hH' hBy hBx hb1
      generalize w1.heap.size = G at g1 ⊢
      generalize w1.alloc (.cells #[.int .i64 3, .int .i64 k2, .int .i64 k3] 79) = W at *
      have c0 : W.cell? ⟨H, 0, .none⟩ = some (.int .i64 h.p) := rowCells g0 0
      have c1 : W.cell? ⟨H, 1, .none⟩ = some (.int .i64 h.c) := rowCells g0 1
      have c2 : W.cell? ⟨H, 2, .none⟩ = some (.int .i64 h.m) := rowCells g0 2
      have c3 : W.cell? ⟨H, 3, .none⟩ = some (.slice ao m cap) := rowCells g0 3
      have p0 : W.cell? ⟨G, 0, .none⟩ = some (.int .i64 3) := rowCells g1 0
      have p1 : W.cell? ⟨G, 1, .none⟩ = some (.int .i64 k2) := rowCells g1 1
      clear g0 g1
      go_wp2_with fail
      refine (hba.out _ hBz).mono ?_
      rintro e w2 ⟨rfl, hb2⟩
      have hB2 := hBz.trans (hb2.mono hBz.size)
      have c0 := keepF hb2 _ _ _ c0
      have c1 := keepF hb2 _ _ _ c1
      have c2 := keepF hb2 _ _ _ c2
      have c3 := keepF hb2 _ _ _ c3
      have p0 := keepF hb2 _ _ _ p0
      have p1 := keepF hb2 _ _ _ p1
      rcases Bool.eq_false_or_eq_true bb with hbb | hbb
      · subst hbb
        go_wp2_with fail
        refine (hro'.out _ hB2).mono ?_
        rintro e w3 ⟨rfl, hb3⟩
        go_wp2
        go_ret
        exact ⟨rfl, hB2.trans (hb3.mono hB2.size)⟩
      · subst hbb
        go_wp2
        go_ret
        exact ⟨rfl, hB2⟩
    rw [if_neg q3]
    by_cases q4 : k1 = 4
    · rw [if_pos q4]
      subst q4
      have hk := hk4 (by simp)
      clear hk3 hk4 q2 q3
      have hpq' := fun X hX => hpq.out k2 X hX (by omega)
      have hbd2 := h.page_bd k2
      generalize h.pk k2 = j1 at *
      generalize h.pa k2 = j2 at *
      generalize h.pn k2 = j3 at *
      generalize h.pb k2 = jb at *
      replace hpq' := Lib.hid hpq'
      have wj : IntKind.i64.wrap (k2 + j2) = k2 + j2 := IntWalk.i64_in _ ⟨by omega, by omega⟩
      go_enter Try.func51, Try.ntmps51
      go_wp2_with fail
      refine (hpg.out _ ((Below.refl _ _).alloc (Nat.le_refl _) _)).mono ?_
      rintro e w1 ⟨rfl, hb1⟩
      have hBx : Below w.heap.size w w1 := ((Below.refl w.heap.size w).alloc (Nat.le_refl _) _).trans (hb1.mono (by simp))
      have g0 := (hb1.block _ (by simp)).trans (heap_alloc_new w (.cells #[.int .i64 h.p, .int .i64 h.c, .int .i64 h.m, .slice ao m cap] 72))
      have g1 := heap_alloc_new w1 (.cells #[.int .i64 4, .int .i64 k2, .int .i64 k3] 79)
      have hBy : Below w1.heap.size w1 (w1.alloc (.cells #[.int .i64 4, .int .i64 k2, .int .i64 k3] 79)) := (Below.refl _ _).alloc (Nat.le_refl _) _
      have g0 := (hBy.block _ (Array.getElem?_eq_some_iff.1 g0).1).trans g0
      have hBz : Below w.heap.size w (w1.alloc (.cells #[.int .i64 4, .int .i64 k2, .int .i64 k3] 79)) := hBx.trans (hBy.mono hBx.size)
      go_upto_region 2 with fail
      obtain ⟨H, hH, hH'⟩ : ∃ H, Hid (H = w.heap.size) ∧ H = w.heap.size := ⟨_, Lib.hid rfl, rfl⟩
      rw [← hH'] at g0 ⊢
      clear hH' hBy hBx hb1
      generalize w1.heap.size = G at g1 ⊢
      generalize w1.alloc (.cells #[.int .i64 4, .int .i64 k2, .int .i64 k3] 79) = W at *
      have c0 : W.cell? ⟨H, 0, .none⟩ = some (.int .i64 h.p) := rowCells g0 0
      have c1 : W.cell? ⟨H, 1, .none⟩ = some (.int .i64 h.c) := rowCells g0 1
      have c2 : W.cell? ⟨H, 2, .none⟩ = some (.int .i64 h.m) := rowCells g0 2
      have c3 : W.cell? ⟨H, 3, .none⟩ = some (.slice ao m cap) := rowCells g0 3
      have p0 : W.cell? ⟨G, 0, .none⟩ = some (.int .i64 4) := rowCells g1 0
      have p1 : W.cell? ⟨G, 1, .none⟩ = some (.int .i64 k2) := rowCells g1 1
      clear g0 g1
      go_wp2_with fail
      refine (hpq'.out _ hBz).mono ?_
      rintro e w2 ⟨rfl, hb2⟩
      have hb3 := hb2.alloc hb2.size (.cells #[.int .i64 j1, .int .i64 j2, .int .i64 j3] 79)
      have g2 := heap_alloc_new w2 (.cells #[.int .i64 j1, .int .i64 j2, .int .i64 j3] 79)
      have hB2 := hBz.trans (hb3.mono hBz.size)
      have c0 := keepF hb3 _ _ _ c0
      have c1 := keepF hb3 _ _ _ c1
      have c2 := keepF hb3 _ _ _ c2
      have c3 := keepF hb3 _ _ _ c3
      have p0 := keepF hb3 _ _ _ p0
      have p1 := keepF hb3 _ _ _ p1
      go_upto_region 11 with fail
      generalize w2.heap.size = K at g2 ⊢
      generalize w2.alloc (.cells #[.int .i64 j1, .int .i64 j2, .int .i64 j3] 79) = V at *
      have r0 : V.cell? ⟨K, 0, .none⟩ = some (.int .i64 j1) := rowCells g2 0
      have r1 : V.cell? ⟨K, 1, .none⟩ = some (.int .i64 j2) := rowCells g2 1
      clear g2 hb3 hb2
      go_wp2_with fail
      refine (hba.out _ hB2).mono ?_
      rintro e w3 ⟨rfl, hb4⟩
      have hB3 := hB2.trans (hb4.mono hB2.size)
      have c0 := keepF hb4 _ _ _ c0
      have c1 := keepF hb4 _ _ _ c1
      have c2 := keepF hb4 _ _ _ c2
      have c3 := keepF hb4 _ _ _ c3
      have p0 := keepF hb4 _ _ _ p0
      have p1 := keepF hb4 _ _ _ p1
      have r0 := keepF hb4 _ _ _ r0
      have r1 := keepF hb4 _ _ _ r1
      rcases Bool.eq_false_or_eq_true bb with hbb | hbb
      · subst hbb
        by_cases x1 : j1 = 1
        · subst x1
          go_wp2
          go_ret
          exact ⟨by rfl, hB3⟩
        · have x1' : (j1 == 1) = false := by rw [beq_eq_false_iff_ne]; exact x1
          by_cases x3 : j1 = 3
          · subst x3
            by_cases x4 : a < k2 + j2
            · have x4' : decide (a < k2 + j2) = true := decide_eq_true x4
              go_wp2
              go_ret
              exact ⟨by rw [x4']; rfl, hB3⟩
            · have x4' : decide (a < k2 + j2) = false := decide_eq_false x4
              go_wp2
              go_ret
              exact ⟨by rw [x4']; rfl, hB3⟩
          · have x3' : (j1 == 3) = false := by rw [beq_eq_false_iff_ne]; exact x3
            go_wp2
            go_ret
            exact ⟨by rw [x1', x3']; rfl, hB3⟩
      · subst hbb
        go_wp2
        go_ret
        exact ⟨by rfl, hB3⟩
    rw [if_neg q4]
    clear hk3 hk4
    have y2 : (k1 == 2) = false := by rw [beq_eq_false_iff_ne]; exact q2
    have y3 : (k1 == 3) = false := by rw [beq_eq_false_iff_ne]; exact q3
    have y4 : (k1 == 4) = false := by rw [beq_eq_false_iff_ne]; exact q4
    by_cases q0 : k1 = 0
    · rw [if_pos q0]
      subst q0
      go_enter Try.func51, Try.ntmps51
      go_wp2_with fail
      refine (hpg.out _ ((Below.refl _ _).alloc (Nat.le_refl _) _)).mono ?_
      rintro e w1 ⟨rfl, hb1⟩
      have hBx : Below w.heap.size w w1 := ((Below.refl w.heap.size w).alloc (Nat.le_refl _) _).trans (hb1.mono (by simp))
      have g0 := (hb1.block _ (by simp)).trans (heap_alloc_new w (.cells #[.int .i64 h.p, .int .i64 h.c, .int .i64 h.m, .slice ao m cap] 72))
      have g1 := heap_alloc_new w1 (.cells #[.int .i64 0, .int .i64 k2, .int .i64 k3] 79)
      have hBy : Below w1.heap.size w1 (w1.alloc (.cells #[.int .i64 0, .int .i64 k2, .int .i64 k3] 79)) := (Below.refl _ _).alloc (Nat.le_refl _) _
      have g0 := (hBy.block _ (Array.getElem?_eq_some_iff.1 g0).1).trans g0
      have hBz : Below w.heap.size w (w1.alloc (.cells #[.int .i64 0, .int .i64 k2, .int .i64 k3] 79)) := hBx.trans (hBy.mono hBx.size)
      go_upto_region 2 with fail
      obtain ⟨H, hH, hH'⟩ : ∃ H, Hid (H = w.heap.size) ∧ H = w.heap.size := ⟨_, Lib.hid rfl, rfl⟩
      rw [← hH'] at g0 ⊢
      clear hH' hBy hBx hb1
      generalize w1.heap.size = G at g1 ⊢
      generalize w1.alloc (.cells #[.int .i64 0, .int .i64 k2, .int .i64 k3] 79) = W at *
      have c0 : W.cell? ⟨H, 0, .none⟩ = some (.int .i64 h.p) := rowCells g0 0
      have c1 : W.cell? ⟨H, 1, .none⟩ = some (.int .i64 h.c) := rowCells g0 1
      have c2 : W.cell? ⟨H, 2, .none⟩ = some (.int .i64 h.m) := rowCells g0 2
      have c3 : W.cell? ⟨H, 3, .none⟩ = some (.slice ao m cap) := rowCells g0 3
      have p0 : W.cell? ⟨G, 0, .none⟩ = some (.int .i64 0) := rowCells g1 0
      have p1 : W.cell? ⟨G, 1, .none⟩ = some (.int .i64 k2) := rowCells g1 1
      clear g0 g1
      go_wp2_with fail
      refine (hba.out _ hBz).mono ?_
      rintro e w2 ⟨rfl, hb2⟩
      go_wp2
      go_ret
      exact ⟨rfl, hBz.trans (hb2.mono hBz.size)⟩
    · rw [if_neg q0]
      have y0 : (k1 == 0) = false := by rw [beq_eq_false_iff_ne]; exact q0
      go_enter Try.func51, Try.ntmps51
      go_wp2_with fail
      refine (hpg.out _ ((Below.refl _ _).alloc (Nat.le_refl _) _)).mono ?_
      rintro e w1 ⟨rfl, hb1⟩
      have hBx : Below w.heap.size w w1 := ((Below.refl w.heap.size w).alloc (Nat.le_refl _) _).trans (hb1.mono (by simp))
      have g0 := (hb1.block _ (by simp)).trans (heap_alloc_new w (.cells #[.int .i64 h.p, .int .i64 h.c, .int .i64 h.m, .slice ao m cap] 72))
      have g1 := heap_alloc_new w1 (.cells #[.int .i64 k1, .int .i64 k2, .int .i64 k3] 79)
      have hBy : Below w1.heap.size w1 (w1.alloc (.cells #[.int .i64 k1, .int .i64 k2, .int .i64 k3] 79)) := (Below.refl _ _).alloc (Nat.le_refl _) _
      have g0 := (hBy.block _ (Array.getElem?_eq_some_iff.1 g0).1).trans g0
      have hBz : Below w.heap.size w (w1.alloc (.cells #[.int .i64 k1, .int .i64 k2, .int .i64 k3] 79)) := hBx.trans (hBy.mono hBx.size)
      go_upto_region 2 with fail
      obtain ⟨H, hH, hH'⟩ : ∃ H, Hid (H = w.heap.size) ∧ H = w.heap.size := ⟨_, Lib.hid rfl, rfl⟩
      rw [← hH'] at g0 ⊢
      clear hH' hBy hBx hb1
      generalize w1.heap.size = G at g1 ⊢
      generalize w1.alloc (.cells #[.int .i64 k1, .int .i64 k2, .int .i64 k3] 79) = W at *
      have c0 : W.cell? ⟨H, 0, .none⟩ = some (.int .i64 h.p) := rowCells g0 0
      have c1 : W.cell? ⟨H, 1, .none⟩ = some (.int .i64 h.c) := rowCells g0 1
      have c2 : W.cell? ⟨H, 2, .none⟩ = some (.int .i64 h.m) := rowCells g0 2
      have c3 : W.cell? ⟨H, 3, .none⟩ = some (.slice ao m cap) := rowCells g0 3
      have p0 : W.cell? ⟨G, 0, .none⟩ = some (.int .i64 k1) := rowCells g1 0
      have p1 : W.cell? ⟨G, 1, .none⟩ = some (.int .i64 k2) := rowCells g1 1
      clear g0 g1
      go_wp2
      go_ret
      exact ⟨rfl, hBz⟩
end Go.Proofs.Ytfknaheijidhcaa

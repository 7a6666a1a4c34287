/- The law FillMost: the walk. -/
import Derived.Test.YtfknaheijidhcaaFilY

namespace Go.Proofs.Ytfknaheijidhcaa

open Go.RowKit Fl

attribute [local go_sem ↓] Go.wp_at_zero Go.wp_at_succ

theorem ge_of (x y : Nat) : (FloatKind.f64.format.order x y == some .gt || FloatKind.f64.format.order x y == some .eq) = (!nan x && !nan y && decide (iv y ≤ iv x)) := by
  rw [gtxy x y, eqxy x y]
  unfold gtB eqB
  cases nan x <;> cases nan y <;> simp
  rw [Bool.eq_iff_iff]; simp; omega
theorem le_of (x y : Nat) : (FloatKind.f64.format.order x y == some .lt || FloatKind.f64.format.order x y == some .eq) = (!nan x && !nan y && decide (iv x ≤ iv y)) := by
  rw [ltxy x y, eqxy x y]
  unfold ltB eqB
  cases nan x <;> cases nan y <;> simp
  rw [Bool.eq_iff_iff]; simp; omega
theorem eq_of (x : Nat) : (FloatKind.f64.format.order x x == some .eq) = !nan x := (eqxy x x).trans (Fl.eq_self x)
theorem ne_of (x : Nat) : (FloatKind.f64.format.order x x != some .eq) = nan x := by rw [bne, eq_of, Bool.not_not]

set_option maxRecDepth 100000 in
set_option maxHeartbeats 2000000 in
theorem fillMost_any (h : Hp) (v : Value) (w : World) (hr : RdZ .u64 w v h.xs) (hf : h.fit) :
    Calls Try.prog 4 #[shV h, v] w fun e w' => e = .returned (.bool true) ∧ Below w.heap.size w w' := by
  have haw := Lib.hid awake24_any
  have hall : Hid (∀ X, Below w.heap.size w X → Calls Try.prog 15 #[.agg #[.int .i64 h.p, .int .i64 h.c, .int .i64 h.m], v] X fun e w' => ∃ u, e = .returned u ∧ Below X.heap.size X w' ∧ RdS w' 1 u 4 (flF (fun i => h.fill i) 4)) := Lib.hid fun X hX => fall_any h v X (hr.below (w' := X) hX) hf
  have hful : Hid (∀ X, Below w.heap.size w X → Calls Try.prog 16 #[.agg #[.int .i64 h.p, .int .i64 h.c, .int .i64 h.m], v] X fun e w' => e = .returned (.tuple #[.int .i64 (bestF (fun i => h.fill i) 4).k, .bool (bestF (fun i => h.fill i) 4).ok]) ∧ Below X.heap.size X w') := Lib.hid fun X hX => ffullest_any h v X (hr.below (w' := X) hX) hf
  have hheap : Hid (∀ X, Below w.heap.size w X → Calls Try.prog 17 #[.agg #[.int .i64 h.p, .int .i64 h.c, .int .i64 h.m], v] X fun e w' => e = .returned (F64 h.heapF) ∧ Below X.heap.size X w') := Lib.hid fun X hX => fheap_any h v X (hr.below (w' := X) hX) hf
  have hsh : ∀ i : Nat, shareB (h.fill i) := fun i => (h.fill_share i).1
  have hhs := h.heap_share.1
  have t1 := heap_alloc_new w (.cells #[.int .i64 h.p, .int .i64 h.c, .int .i64 h.m] 23)
  have t2 := (Below.refl w.heap.size w).alloc (Nat.le_refl _) (.cells #[.int .i64 h.p, .int .i64 h.c, .int .i64 h.m] 23)
  obtain ⟨ao, cap, rfl, hcap, hcm, hrow⟩ := hr.cells
  clear hrow
  obtain ⟨X, hX⟩ : ∃ X : Nat → Nat, X = fun i : Nat => h.fill i := ⟨_, rfl⟩
  replace hsh : ∀ i, shareB (X i) := fun i => by rw [hX]; exact hsh i
  rw [← hX] at hall hful
  clear hX hr
  have hbo := bestF_ok X 4
  generalize h.heapF = hF at *
  generalize h.xs.length = n at *
  obtain ⟨H, hH, hH'⟩ : ∃ H, Hid (H = w.heap.size) ∧ H = w.heap.size := ⟨_, Lib.hid rfl, rfl⟩
  by_cases hlong : (3000 : Int) < (n : Int)
  · clear hall hful hheap hbo
    go_enter Try.func4, Try.ntmps4
    go_upto_region 1 with fail
    generalize w.alloc (.cells #[.int .i64 h.p, .int .i64 h.c, .int .i64 h.m] 23) = W at *
    rw [← hH'] at t1 ⊢
    clear hH'
    go_wp2_with fail
    refine (haw.out _).mono ?_
    rintro e w1 ⟨rfl, hb1⟩
    go_wp2
    go_ret
    exact ⟨rfl, t2.trans (hb1.mono t2.size)⟩
  · go_enter Try.func4, Try.ntmps4
    go_upto_region 1 with fail
    generalize w.alloc (.cells #[.int .i64 h.p, .int .i64 h.c, .int .i64 h.m] 23) = W at *
    rw [← hH'] at t1 ⊢
    clear hH'
    have c0 : W.cell? ⟨H, 0, .none⟩ = some (.int .i64 h.p) := rowCells t1 0
    have c1 : W.cell? ⟨H, 1, .none⟩ = some (.int .i64 h.c) := rowCells t1 1
    have c2 : W.cell? ⟨H, 2, .none⟩ = some (.int .i64 h.m) := rowCells t1 2
    have lH : H < W.heap.size := (Array.getElem?_eq_some_iff.1 t1).1
    go_wp2_with fail
    refine (haw.out _).mono ?_
    rintro e w1 ⟨rfl, hb1⟩
    have d0 := keepF hb1 _ _ _ c0
    have d1 := keepF hb1 _ _ _ c1
    have d2 := keepF hb1 _ _ _ c2
    go_wp2_with fail
    refine (hall.out _ (t2.trans (hb1.mono t2.size))).mono ?_
    rintro e w2 ⟨u, rfl, hb2, hru⟩
    obtain ⟨uo, ucap, rfl, hucap, hucm, _, hurow⟩ := hru
    obtain ⟨g, off, rfl, hg, hcell⟩ := hurow (by omega)
    have hb3 := hb1.trans (hb2.mono hb1.size)
    have e0 := keepF hb3 _ _ _ c0
    have e1 := keepF hb3 _ _ _ c1
    have e2 := keepF hb3 _ _ _ c2
    go_wp2_with fail
    refine (hful.out _ (t2.trans (hb3.mono t2.size))).mono ?_
    rintro e w4 ⟨rfl, hb4⟩
    replace hcell : Hid (∀ (Y : World) i, Below w2.heap.size w2 Y → i < 4 → Y.cell? ⟨g, off + i, .none⟩ = some (F64 (X i))) := Lib.hid fun Y i hY hi => keepF hY _ _ _ ((hcell i (by omega)).trans (flF_get X 4 i hi))
    clear d0 d1 d2 e0 e1 e2 hall hful haw
    obtain ⟨V, rfl⟩ : ∃ V : World, V = w4 := ⟨_, rfl⟩
    have hb5 := hb3.trans (hb4.mono hb3.size)
    generalize bestF X 4 = b at *
    obtain ⟨bk, bo, bm⟩ := b
    dsimp only at hbo ⊢
    rcases Bool.eq_false_or_eq_true bo with hbo2 | hbo2
    · subst hbo2
      obtain ⟨kb, rfl, hkb, _, hnk, hle, hlt⟩ := hbo.2 rfl
      have hle2 : Hid (∀ i, i < 4 → nan (X i) = false → (FloatKind.f64.format.order (X i) (X kb) == some .gt) = false) := Lib.hid fun i hi hn => by
        rw [gtxy]
        unfold gtB
        rw [hn, hnk]
        rcases hle i hi with h1 | h1
        · rw [hn] at h1; cases h1
        · have := (share_lt (hsh kb) (hsh i) hnk hn)
          simp only [Bool.not_false, Bool.true_and]
          exact decide_eq_false fun e => by have := this.2 e; omega
      have hlt2 : Hid (∀ i, i < kb → nan (X i) = false → (FloatKind.f64.format.order (X i) (X kb) == some .eq) = false) := Lib.hid fun i hi hn => by
        rw [eqxy]
        unfold eqB
        rw [hn, hnk]
        rcases hlt i hi with h1 | h1
        · rw [hn] at h1; cases h1
        · have := (share_lt (hsh i) (hsh kb) hn hnk).1 h1
          simp only [Bool.not_false, Bool.true_and]
          exact decide_eq_false (by omega)
      clear hle hlt hbo
      go_wp2_with fail
      go_loopw [8] (fun vi wr => ∃ i : Nat, i ≤ 4 ∧ vi = .int .i64 i ∧ Below V.heap.size V wr) (fun vi _ => 4 - (intOf vi).toNat)
      case atStart => exact ⟨0, by omega, rfl, Below.refl _ _⟩
      case round =>
        obtain ⟨i, hi, rfl, hbr⟩ := hrel
        obtain ⟨Y, rfl⟩ : ∃ V : World, V = wr := ⟨_, rfl⟩
        by_cases hlt : (i : Int) < 4
        · have wi1 : IntKind.i64.wrap ((i : Int) + 1) = (i : Int) + 1 := IntWalk.i64_in _ ⟨by omega, by omega⟩
          have hi0 : (0 : Int) ≤ (i : Int) := by omega
          have hci := hcell.out Y i (hb4.trans (hbr.mono hb4.size)) (by omega)
          have hck := hcell.out Y kb (hb4.trans (hbr.mono hb4.size)) hkb
          have heq := eq_of (X i)
          have hkb0 : (0 : Int) ≤ (kb : Int) := by omega
          have hkb4 : (kb : Int) < 4 := by omega
          rcases Bool.eq_false_or_eq_true (nan (X i)) with hn | hn
          · rw [hn] at heq
            simp only [Bool.not_true] at heq
            clear hn
            go_upto_region 12 with fail
            go_quiet (fail)
            replace hbr := below_drewN hbr nq
            replace hci : (Y.drewN nq).cell? ⟨g, off + i, .none⟩ = some (F64 (X i)) := hci
            replace hck : (Y.drewN nq).cell? ⟨g, off + kb, .none⟩ = some (F64 (X kb)) := hck
            generalize Y.drewN nq = Y2 at *
            obtain ⟨Y, rfl⟩ : ∃ V : World, V = Y2 := ⟨_, rfl⟩
            go_upto_region 13 with fail
            go_quiet (fail)
            replace hbr := below_drewN hbr nq
            replace hci : (Y.drewN nq).cell? ⟨g, off + i, .none⟩ = some (F64 (X i)) := hci
            replace hck : (Y.drewN nq).cell? ⟨g, off + kb, .none⟩ = some (F64 (X kb)) := hck
            generalize Y.drewN nq = Y2 at *
            obtain ⟨Y, rfl⟩ : ∃ V : World, V = Y2 := ⟨_, rfl⟩
            go_wp2
            exact ⟨⟨i + 1, by omega, by go_num, hbr⟩, by simp [intOf]; omega⟩
          · rw [hn] at heq
            simp only [Bool.not_false] at heq
            have hgt := hle2.out i (by omega) hn
            by_cases hik : i < kb
            · have hge := hlt2.out i hik hn
              have hik2 : decide ((i : Int) < (kb : Int)) = true := decide_eq_true (by omega)
              have hik3 : decide (i < kb) = true := decide_eq_true (by omega)
              clear hn
              go_upto_region 12 with fail
              go_quiet (fail)
              replace hbr := below_drewN hbr nq
              replace hci : (Y.drewN nq).cell? ⟨g, off + i, .none⟩ = some (F64 (X i)) := hci
              replace hck : (Y.drewN nq).cell? ⟨g, off + kb, .none⟩ = some (F64 (X kb)) := hck
              generalize Y.drewN nq = Y2 at *
              obtain ⟨Y, rfl⟩ : ∃ V : World, V = Y2 := ⟨_, rfl⟩
              go_upto_region 13 with fail
              go_quiet (fail)
              replace hbr := below_drewN hbr nq
              replace hci : (Y.drewN nq).cell? ⟨g, off + i, .none⟩ = some (F64 (X i)) := hci
              replace hck : (Y.drewN nq).cell? ⟨g, off + kb, .none⟩ = some (F64 (X kb)) := hck
              generalize Y.drewN nq = Y2 at *
              obtain ⟨Y, rfl⟩ : ∃ V : World, V = Y2 := ⟨_, rfl⟩
              go_wp2
              exact ⟨⟨i + 1, by omega, by go_num, hbr⟩, by simp [intOf]; omega⟩
            · have hik2 : decide ((i : Int) < (kb : Int)) = false := decide_eq_false (by omega)
              have hik3 : decide (i < kb) = false := decide_eq_false (by omega)
              clear hn
              go_upto_region 12 with fail
              go_quiet (fail)
              replace hbr := below_drewN hbr nq
              replace hci : (Y.drewN nq).cell? ⟨g, off + i, .none⟩ = some (F64 (X i)) := hci
              replace hck : (Y.drewN nq).cell? ⟨g, off + kb, .none⟩ = some (F64 (X kb)) := hck
              generalize Y.drewN nq = Y2 at *
              obtain ⟨Y, rfl⟩ : ∃ V : World, V = Y2 := ⟨_, rfl⟩
              go_upto_region 13 with fail
              go_quiet (fail)
              replace hbr := below_drewN hbr nq
              replace hci : (Y.drewN nq).cell? ⟨g, off + i, .none⟩ = some (F64 (X i)) := hci
              replace hck : (Y.drewN nq).cell? ⟨g, off + kb, .none⟩ = some (F64 (X kb)) := hck
              generalize Y.drewN nq = Y2 at *
              obtain ⟨Y, rfl⟩ : ∃ V : World, V = Y2 := ⟨_, rfl⟩
              go_wp2
              exact ⟨⟨i + 1, by omega, by go_num, hbr⟩, by simp [intOf]; omega⟩
        · have hie : i = 4 := by omega
          subst hie
          have d0 := keepF (hb5.trans (hbr.mono hb5.size)) _ _ _ c0
          have d1 := keepF (hb5.trans (hbr.mono hb5.size)) _ _ _ c1
          have d2 := keepF (hb5.trans (hbr.mono hb5.size)) _ _ _ c2
          have hBY := t2.trans ((hb5.trans (hbr.mono hb5.size)).mono t2.size)
          go_wp2_with fail
          refine (hheap.out _ hBY).mono ?_
          rintro e w6 ⟨rfl, hb6⟩
          have hck := hcell.out w6 kb (hb4.trans ((hbr.trans (hb6.mono hbr.size)).mono hb4.size)) hkb
          have hkb0 : (0 : Int) ≤ (kb : Int) := by omega
          have hkb4 : (kb : Int) < 4 := by omega
          have heq := eq_of (X kb)
          rw [hnk] at heq
          simp only [Bool.not_false] at heq
          have hne := ne_of hF
          have hq0 : decide ((0 : Int) ≤ (kb : Int)) = true := decide_eq_true hkb0
          have hq4 : decide ((kb : Int) < 4) = true := decide_eq_true hkb4
          have hq5 : decide (kb < 4) = true := decide_eq_true hkb
          rcases hhs with hn | ⟨hn, _, hv0, hv1⟩
          · rw [hn] at hne
            go_upto_region 16 with fail
            go_quiet (fail)
            have hbQ : Below w.heap.size w (w6.drewN nq) := below_drewN (hBY.trans (hb6.mono hBY.size)) nq
            generalize w6.drewN nq = Y2 at *
            go_wp2
            go_ret
            exact ⟨rfl, hbQ⟩
          · rw [hn] at hne
            have hge := ge_of hF 0
            rw [hn, nan_zero, iv_zero, decide_eq_true hv0] at hge
            have hle := le_of hF ONE
            rw [hn, nan_one, iv_one, decide_eq_true hv1] at hle
            unfold ONE at hle
            go_upto_region 16 with fail
            go_quiet (fail)
            have hbQ : Below w.heap.size w (w6.drewN nq) := below_drewN (hBY.trans (hb6.mono hBY.size)) nq
            generalize w6.drewN nq = Y2 at *
            go_wp2
            go_ret
            exact ⟨rfl, hbQ⟩
    · subst hbo2
      obtain ⟨_, rfl, hnn⟩ := hbo.1 rfl
      clear hbo
      go_wp2_with fail
      go_loopw [8] (fun vi wr => ∃ i : Nat, i ≤ 4 ∧ vi = .int .i64 i ∧ Below V.heap.size V wr) (fun vi _ => 4 - (intOf vi).toNat)
      case atStart => exact ⟨0, by omega, rfl, Below.refl _ _⟩
      case round =>
        obtain ⟨i, hi, rfl, hbr⟩ := hrel
        obtain ⟨Y, rfl⟩ : ∃ V : World, V = wr := ⟨_, rfl⟩
        by_cases hlt : (i : Int) < 4
        · have wi1 : IntKind.i64.wrap ((i : Int) + 1) = (i : Int) + 1 := IntWalk.i64_in _ ⟨by omega, by omega⟩
          have hi0 : (0 : Int) ≤ (i : Int) := by omega
          have hci := hcell.out Y i (hb4.trans (hbr.mono hb4.size)) (by omega)
          have heq := eq_of (X i)
          rw [hnn i (by omega)] at heq
          simp only [Bool.not_true] at heq
          go_upto_region 12 with fail
          go_quiet (fail)
          replace hbr := below_drewN hbr nq
          generalize Y.drewN nq = Y2 at *
          obtain ⟨Y, rfl⟩ : ∃ V : World, V = Y2 := ⟨_, rfl⟩
          go_upto_region 13 with fail
          go_quiet (fail)
          replace hbr := below_drewN hbr nq
          generalize Y.drewN nq = Y2 at *
          go_wp2
          exact ⟨⟨i + 1, by omega, by go_num, hbr⟩, by simp [intOf]; omega⟩
        · have hie : i = 4 := by omega
          subst hie
          have d0 := keepF (hb5.trans (hbr.mono hb5.size)) _ _ _ c0
          have d1 := keepF (hb5.trans (hbr.mono hb5.size)) _ _ _ c1
          have d2 := keepF (hb5.trans (hbr.mono hb5.size)) _ _ _ c2
          have hBY := t2.trans ((hb5.trans (hbr.mono hb5.size)).mono t2.size)
          go_wp2_with fail
          refine (hheap.out _ hBY).mono ?_
          rintro e w6 ⟨rfl, hb6⟩
          have hne := ne_of hF
          rcases hhs with hn | ⟨hn, _, hv0, hv1⟩
          · rw [hn] at hne
            go_upto_region 16 with fail
            go_quiet (fail)
            have hbQ : Below w.heap.size w (w6.drewN nq) := below_drewN (hBY.trans (hb6.mono hBY.size)) nq
            generalize w6.drewN nq = Y2 at *
            go_wp2
            go_ret
            exact ⟨rfl, hbQ⟩
          · rw [hn] at hne
            have hge := ge_of hF 0
            rw [hn, nan_zero, iv_zero, decide_eq_true hv0] at hge
            have hle := le_of hF ONE
            rw [hn, nan_one, iv_one, decide_eq_true hv1] at hle
            unfold ONE at hle
            go_upto_region 16 with fail
            go_quiet (fail)
            have hbQ : Below w.heap.size w (w6.drewN nq) := below_drewN (hBY.trans (hb6.mono hBY.size)) nq
            generalize w6.drewN nq = Y2 at *
            go_wp2
            go_ret
            exact ⟨rfl, hbQ⟩
end Go.Proofs.Ytfknaheijidhcaa

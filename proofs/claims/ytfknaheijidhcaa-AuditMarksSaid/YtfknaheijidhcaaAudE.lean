/- Soundness of a heap's pages: plain, and the walks. -/
import Derived.Test.YtfknaheijidhcaaAudX

import Derived.Deep.CutBlock

namespace Go.Proofs.Ytfknaheijidhcaa

open Go.RowKit

attribute [local go_sem ↓] Go.wp_at_zero Go.wp_at_succ

/-- Are the slots below i all nought? -/
def Hp.bareT (h : Hp) (a : Int) : Nat → Bool
  | 0 => true
  | i + 1 => h.bareT a i && h.sw a i == 0
def Hp.bare (h : Hp) (a : Int) : Bool := h.bareT a 16
def Hp.okS (h : Hp) (a k i : Int) : Bool := if i < slotsV k then (h.sk a i == 2 && decide (h.sa a i < h.c)) || ((h.sk a i == 1 || h.sk a i == 3) && h.sa a i == k) else h.sw a i == 0
def Hp.supT (h : Hp) (a k : Int) : Nat → Bool
  | 0 => true
  | i + 1 => h.supT a k i && h.okS a k i
def Hp.sup (h : Hp) (a k : Int) : Bool := h.supT a k 16
/-- Are the next i pages bodies of page a? -/
def Hp.rowT (h : Hp) (a : Int) : Nat → Bool
  | 0 => true
  | i + 1 => h.rowT a i && (h.pk (a + 1 + i) == 4 && h.pa (a + 1 + i) == a)
def Hp.rowB (h : Hp) (a n : Int) : Bool := h.rowT a (n - 1).toNat
def Hp.snd (h : Hp) (a : Int) : Bool :=
  if h.pb a = true then
    (if h.pk a = 2 then h.sup a (h.pa a)
     else if h.pk a = 3 then h.bare a && h.rowB a (h.pa a)
     else if h.pk a = 4 then h.bare a && (h.pk (h.pa a) == 1 || (h.pk (h.pa a) == 3 && decide (a < h.pa a + h.pa (h.pa a))))
     else if h.pk a = 0 then h.bare a
     else true)
  else false
theorem Hp.bareT_mono (h : Hp) (a : Int) {i j : Nat} (hij : i ≤ j) (hf : h.bareT a i = false) : h.bareT a j = false := by
  induction hij with
  | refl => exact hf
  | step _ ih => show (_ && _) = false; rw [ih]; rfl
theorem Hp.supT_mono (h : Hp) (a k : Int) {i j : Nat} (hij : i ≤ j) (hf : h.supT a k i = false) : h.supT a k j = false := by
  induction hij with
  | refl => exact hf
  | step _ ih => show (_ && _) = false; rw [ih]; rfl
theorem Hp.rowT_mono (h : Hp) (a : Int) {i j : Nat} (hij : i ≤ j) (hf : h.rowT a i = false) : h.rowT a j = false := by
  induction hij with
  | refl => exact hf
  | step _ ih => show (_ && _) = false; rw [ih]; rfl

set_option maxRecDepth 100000 in
set_option maxHeartbeats 2000000 in
theorem bare_any (h : Hp) (v : Value) (a : Int) (w : World) (b : Bok w v h) (ha : 0 ≤ a ∧ a < h.p) :
    Calls Try.prog 76 #[bookV h v, .int .i64 a] w fun e w' => e = .returned (.bool (h.bare a)) ∧ Below w.heap.size w w' := by
  obtain ⟨b1, b2, b3, b4⟩ := b.bd
  have hcm := mul_bd (c := h.c) (m := h.m) (C := 12) (M := 8) (by omega) (by omega)
  have hpos : 0 < h.xs.length := by omega
  obtain ⟨g, off, cap, k0, hv, hcap, hg, _, _, _⟩ := b.word 0 (by omega) (by omega)
  have hword : Hid (∀ i : Nat, i < 16 → ∃ k : Nat, slotIx h.p h.c h.m a i = (k : Int) ∧ k < h.xs.length ∧ w.cell? ⟨g, off + k, .none⟩ = some (.int .u64 (h.sw a i))) := Lib.hid fun i hi => by
    obtain ⟨g', off', cap', k, hv', _, _, hk, hkn, hc⟩ := b.word (h.c + h.p + a * 16 + i) (by omega) (by omega)
    rw [hv] at hv'
    injection hv' with e1 _ _
    injection e1 with e1
    injection e1 with e1 e2
    subst e1 e2
    refine ⟨k, ?_, hkn, hc⟩
    unfold slotIx
    rw [if_pos ⟨b.may, wi_iff.2 (by omega), wi_iff.2 (by omega)⟩, hk]
  subst hv
  have hsl := fun i => planSlot_any h.p h.c h.m a i
  have hS0 : Hid (h.bareT a 0 = true) := Lib.hid rfl
  have hSS : Hid (∀ i, h.bareT a (i + 1) = (h.bareT a i && h.sw a i == 0)) := Lib.hid fun _ => rfl
  have hSM : Hid (∀ i, i ≤ 16 → h.bareT a i = false → h.bare a = false) := Lib.hid fun i hi => h.bareT_mono a hi
  have hSE : Hid (h.bareT a 16 = h.bare a) := Lib.hid rfl
  generalize hn : h.xs.length = n at *
  replace hn := Lib.hid hn
  replace hsl := Lib.hid hsl
  clear b b4 hcm
  go_enter Try.func76, Try.ntmps76
  have g0 := heap_alloc_new w (.cells #[.int .i64 h.p, .int .i64 h.c, .int .i64 h.m, .slice (some ⟨g, off, .none⟩) n cap] 72)
  have hB0 : Below w.heap.size w (w.alloc (.cells #[.int .i64 h.p, .int .i64 h.c, .int .i64 h.m, .slice (some ⟨g, off, .none⟩) n cap] 72)) := (Below.refl _ _).alloc (Nat.le_refl _) _
  go_upto_region 1 with fail
  obtain ⟨H, hH, hH'⟩ : ∃ H, Hid (H = w.heap.size) ∧ H = w.heap.size := ⟨_, Lib.hid rfl, rfl⟩
  rw [← hH'] at g0 ⊢
  clear hH'
  generalize w.alloc (.cells #[.int .i64 h.p, .int .i64 h.c, .int .i64 h.m, .slice (some ⟨g, off, .none⟩) n cap] 72) = W at *
  have c0 : W.cell? ⟨H, 0, .none⟩ = some (.int .i64 h.p) := rowCells g0 0
  have c1 : W.cell? ⟨H, 1, .none⟩ = some (.int .i64 h.c) := rowCells g0 1
  have c2 : W.cell? ⟨H, 2, .none⟩ = some (.int .i64 h.m) := rowCells g0 2
  have c3 : W.cell? ⟨H, 3, .none⟩ = some (.slice (some ⟨g, off, .none⟩) n cap) := rowCells g0 3
  have lH := (Array.getElem?_eq_some_iff.1 g0).1
  have lg : g < W.heap.size := by have := hB0.size; omega
  clear g0
  go_wp2_with fail
  go_loopw [6] (fun vi wr => ∃ i : Nat, i ≤ 16 ∧ vi = .int .i64 i ∧ Hid (h.bareT a i = true) ∧ Below W.heap.size W wr) (fun vi _ => 16 - (intOf vi).toNat)
  case atStart => exact ⟨0, Nat.zero_le _, rfl, hS0, Below.refl _ _⟩
  case round =>
    obtain ⟨i, hi, rfl, hoi, hbr⟩ := hrel
    have d0 := keepF hbr _ _ _ c0
    have d1 := keepF hbr _ _ _ c1
    have d2 := keepF hbr _ _ _ c2
    have d3 := keepF hbr _ _ _ c3
    have hBr := hB0.trans (hbr.mono hB0.size)
    have lHr : H < wr.heap.size := by have := hbr.size; omega
    have lgr : g < wr.heap.size := by have := hbr.size; omega
    by_cases hlt : i < 16
    · obtain ⟨k, hk, hkn, hc⟩ := hword.out i hlt
      replace hc := keepF hBr _ _ _ hc
      have hsa := hsl.out i
      rw [hk] at hsa
      have hstep := hSS.out i
      rw [hoi.out, Bool.true_and] at hstep
      have hff := hSM.out (i + 1) (by omega)
      generalize h.sw a i = x at *
      replace hsa := Lib.hid hsa
      have hk0 : (0 : Int) ≤ (k : Int) := by omega
      have hk1 : (k : Int) < (n : Int) := by omega
      have hi' : (i : Int) < 16 := by omega
      clear hk
      by_cases hx : x = 0
      · have hx' : (x == 0) = true := by rw [beq_iff_eq]; exact hx
        rw [hx'] at hstep
        have hd : (x != 0) = false := by simp [hx]
        replace hstep := Lib.hid hstep
        clear hff hx' hx
        go_upto_region 4 with fail
        refine wp_region_ext (by kernel_rfl) (by kernel_rfl) ?_
        repeat (go_big_quiet_step ((go_at_call 59; exact ext_of (hsa.out _))))
        refine wpQuiet_nil ?_
        rintro _ ⟨e, rfl⟩
        go_wp2
        exact ⟨⟨i + 1, by omega, by go_num, hstep, hbr.trans (e.below.mono hbr.size)⟩, by simp [intOf]; omega⟩
      · have hx' : (x == 0) = false := by rw [beq_eq_false_iff_ne]; exact hx
        rw [hx'] at hstep
        have hd : (x != 0) = true := by simpa using hx
        have hfin := Lib.hid (hff hstep)
        clear hff hx' hx hstep
        go_upto_region 4 with fail
        refine wp_region_ext (by kernel_rfl) (by kernel_rfl) ?_
        repeat (go_big_quiet_step ((go_at_call 59; exact ext_of (hsa.out _))))
        refine wpQuiet_nil ?_
        rintro _ ⟨e, rfl⟩
        go_wp2
        go_ret
        exact ⟨by rw [hfin.out]; rfl, hBr.trans (e.below.mono hBr.size)⟩
    · have hie : i = 16 := by omega
      subst hie
      clear hlt
      go_wp2
      go_ret
      exact ⟨by rw [← hSE.out, hoi.out]; rfl, hBr⟩

theorem Bok.slots {w : World} {v : Value} {h : Hp} (b : Bok w v h) {a : Int} (ha : 0 ≤ a ∧ a < h.p) : ∃ g off cap, v = .slice (some ⟨g, off, .none⟩) h.xs.length cap ∧ g < w.heap.size ∧
    ∀ i : Nat, i < 16 → ∃ k : Nat, slotIx h.p h.c h.m a i = (k : Int) ∧ k < h.xs.length ∧ w.cell? ⟨g, off + k, .none⟩ = some (.int .u64 (h.sw a i)) := by
  obtain ⟨b1, b2, b3, b4⟩ := b.bd
  have hcm := mul_bd (c := h.c) (m := h.m) (C := 12) (M := 8) (by omega) (by omega)
  obtain ⟨g, off, cap, k0, hv, hcap, hg, _, _, _⟩ := b.word 0 (by omega) (by omega)
  refine ⟨g, off, cap, hv, hg, fun i hi => ?_⟩
  obtain ⟨g', off', cap', k, hv', _, _, hk, hkn, hc⟩ := b.word (h.c + h.p + a * 16 + i) (by omega) (by omega)
  rw [hv] at hv'
  injection hv' with e1 _ _
  injection e1 with e1
  injection e1 with e1 e2
  subst e1 e2
  refine ⟨k, ?_, hkn, hc⟩
  unfold slotIx
  rw [if_pos ⟨b.may, wi_iff.2 (by omega), wi_iff.2 (by omega)⟩, hk]

set_option maxRecDepth 100000 in
set_option maxHeartbeats 4000000 in
theorem super_any (h : Hp) (v : Value) (a k : Int) (w : World) (b : Bok w v h) (ha : 0 ≤ a ∧ a < h.p) :
    Calls Try.prog 75 #[bookV h v, .int .i64 a, .int .i64 k] w fun e w' => e = .returned (.bool (h.sup a k)) ∧ Below w.heap.size w w' := by
  obtain ⟨g, off, cap, hv, hg, hword⟩ := b.slots ha
  replace hword := Lib.hid hword
  have hsl := fun i => planSlot_any h.p h.c h.m a i
  have hsr := fun i X (hX : Below w.heap.size w X) hi => slot_any h v a i X (b.below hX) ha hi
  subst hv
  have hss := slots_any k
  have hsb := slots_bd k
  have hS0 : Hid (h.supT a k 0 = true) := Lib.hid rfl
  have hSS : Hid (∀ i, h.supT a k (i + 1) = (h.supT a k i && h.okS a k i)) := Lib.hid fun _ => rfl
  have hSM : Hid (∀ i, i ≤ 16 → h.supT a k i = false → h.sup a k = false) := Lib.hid fun i hi => h.supT_mono a k hi
  have hSE : Hid (h.supT a k 16 = h.sup a k) := Lib.hid rfl
  have hSO : Hid (∀ i, h.okS a k i = if i < slotsV k then (h.sk a i == 2 && decide (h.sa a i < h.c)) || ((h.sk a i == 1 || h.sk a i == 3) && h.sa a i == k) else h.sw a i == 0) := Lib.hid fun _ => rfl
  generalize slotsV k = q at *
  generalize hn : h.xs.length = n at *
  replace hn := Lib.hid hn
  replace hsl := Lib.hid hsl
  replace hsr := Lib.hid hsr
  replace hss := Lib.hid hss
  clear b
  go_enter Try.func75, Try.ntmps75
  have g0 := heap_alloc_new w (.cells #[.int .i64 h.p, .int .i64 h.c, .int .i64 h.m, .slice (some ⟨g, off, .none⟩) n cap] 72)
  have hB0 : Below w.heap.size w (w.alloc (.cells #[.int .i64 h.p, .int .i64 h.c, .int .i64 h.m, .slice (some ⟨g, off, .none⟩) n cap] 72)) := (Below.refl _ _).alloc (Nat.le_refl _) _
  go_upto_region 1 with fail
  obtain ⟨H, hH, hH'⟩ : ∃ H, Hid (H = w.heap.size) ∧ H = w.heap.size := ⟨_, Lib.hid rfl, rfl⟩
  rw [← hH'] at g0 ⊢
  clear hH'
  generalize w.alloc (.cells #[.int .i64 h.p, .int .i64 h.c, .int .i64 h.m, .slice (some ⟨g, off, .none⟩) n cap] 72) = W at *
  have c0 : W.cell? ⟨H, 0, .none⟩ = some (.int .i64 h.p) := rowCells g0 0
  have c1 : W.cell? ⟨H, 1, .none⟩ = some (.int .i64 h.c) := rowCells g0 1
  have c2 : W.cell? ⟨H, 2, .none⟩ = some (.int .i64 h.m) := rowCells g0 2
  have c3 : W.cell? ⟨H, 3, .none⟩ = some (.slice (some ⟨g, off, .none⟩) n cap) := rowCells g0 3
  have lH := (Array.getElem?_eq_some_iff.1 g0).1
  have lg : g < W.heap.size := by have := hB0.size; omega
  clear g0
  go_wp2_with fail
  go_loopw [10] (fun vi wr => ∃ i : Nat, i ≤ 16 ∧ vi = .int .i64 i ∧ Hid (h.supT a k i = true) ∧ Below W.heap.size W wr) (fun vi _ => 16 - (intOf vi).toNat)
  case atStart => exact ⟨0, Nat.zero_le _, rfl, hS0, Below.refl _ _⟩
  case round =>
    obtain ⟨i, hi, rfl, hoi, hbr⟩ := hrel
    have d0 := keepF hbr _ _ _ c0
    have d1 := keepF hbr _ _ _ c1
    have d2 := keepF hbr _ _ _ c2
    have d3 := keepF hbr _ _ _ c3
    have hBr := hB0.trans (hbr.mono hB0.size)
    by_cases hlt : i < 16
    · obtain ⟨z, hk, hkn, hc⟩ := hword.out i hlt
      have hsa := hsl.out i
      rw [hk] at hsa
      have hsx := hsr.out i wr hBr (by omega)
      have hstep := hSS.out i
      rw [hoi.out, Bool.true_and, hSO.out i] at hstep
      have hff := hSM.out (i + 1) (by omega)
      generalize h.sw a i = x at *
      generalize h.sk a i = k4 at *
      generalize h.sa a i = k5 at *
      replace hsa := Lib.hid hsa
      replace hsx := Lib.hid hsx
      have hk0 : (0 : Int) ≤ (z : Int) := by omega
      have hk1 : (z : Int) < (n : Int) := by omega
      have hi' : (i : Int) < 16 := by omega
      clear hk
      go_wp2_with fail
      refine hsx.out.mono ?_
      rintro e w3 ⟨rfl, hb3⟩
      have hb4 := (hbr.trans (hb3.mono hbr.size)).alloc (Nat.le_trans hbr.size hb3.size) (.cells #[.int .i64 k4, .int .i64 k5] 87)
      have g3 := heap_alloc_new w3 (.cells #[.int .i64 k4, .int .i64 k5] 87)
      go_upto_region 5 with fail
      generalize w3.heap.size = G at g3 ⊢
      generalize w3.alloc (.cells #[.int .i64 k4, .int .i64 k5] 87) = V at *
      have lG := (Array.getElem?_eq_some_iff.1 g3).1
      have p0 : V.cell? ⟨G, 0, .none⟩ = some (.int .i64 k4) := rowCells g3 0
      have p1 : V.cell? ⟨G, 1, .none⟩ = some (.int .i64 k5) := rowCells g3 1
      have d0 := keepF hb4 _ _ _ c0
      have d1 := keepF hb4 _ _ _ c1
      have d2 := keepF hb4 _ _ _ c2
      have d3 := keepF hb4 _ _ _ c3
      have hB4 := hB0.trans (hb4.mono hB0.size)
      replace hc := keepF hB4 _ _ _ hc
      have lHr : H < V.heap.size := by have := hb4.size; omega
      have lgr : g < V.heap.size := by have := hb4.size; omega
      refine wp_region_ext (by kernel_rfl) (by kernel_rfl) ?_
      repeat (go_big_quiet_step ((go_at_call 59; exact ext_of (hsa.out _))))
      refine wpQuiet_nil ?_
      rintro _ ⟨e, rfl⟩
      have p0 := keepF e.below _ _ _ p0
      have p1 := keepF e.below _ _ _ p1
      have d1 := keepF e.below _ _ _ d1
      have hb5 := hb4.trans (e.below.mono hb4.size)
      have hB5 := hB0.trans (hb5.mono hB0.size)
      clear hb3 g3 lG hB4 hc hb4 hsx hsa hbr hBr
      generalize e.w = U at *
      clear e
      go_wp2_with fail
      refine (hss.out _).mono ?_
      rintro e w4 ⟨rfl, hw⟩
      obtain rfl := hw.symm
      clear hw
      go_upto_if 30 with fail
      obtain ⟨ok, hok⟩ : ∃ ok : Bool, Hid (h.supT a k (i + 1) = ok) := ⟨_, Lib.hid rfl⟩
      rw [hok.out] at hstep
      replace hstep := Lib.hid hstep
      go_cut [9] (fun s wx => s = .bool ok ∧ wx = U)
      case first =>
        by_cases hq : (i : Int) < q
        · have h1 := hstep.out
          rw [if_pos hq] at h1
          replace h1 := Lib.hid h1
          go_wp2_with fail
          all_goals (go_meet; refine ⟨?_, rfl⟩; rw [h1.out]; congr 1)
          all_goals (clear h1; first | (simp [*]; done) | (simp_all; done))
        · have h1 := hstep.out
          rw [if_neg hq] at h1
          replace h1 := Lib.hid h1
          go_wp2_with fail
          go_meet
          case rel => exact ⟨by rw [h1.out], rfl⟩
      case rest =>
        obtain ⟨rfl, hw⟩ := hcut
        obtain rfl := hw.symm
        clear hw
        rcases Bool.eq_false_or_eq_true ok with ho | ho
        · subst ho
          go_wp2
          exact ⟨⟨i + 1, by omega, by go_num, hok, hb5⟩, by simp [intOf]; omega⟩
        · subst ho
          have hfin := Lib.hid (hff hok.out)
          clear hff
          go_wp2
          go_ret
          exact ⟨by rw [hfin.out]; rfl, hB5⟩
    · have hie : i = 16 := by omega
      subst hie
      clear hlt
      go_wp2
      go_ret
      exact ⟨by rw [← hSE.out, hoi.out]; rfl, hBr⟩
end Go.Proofs.Ytfknaheijidhcaa

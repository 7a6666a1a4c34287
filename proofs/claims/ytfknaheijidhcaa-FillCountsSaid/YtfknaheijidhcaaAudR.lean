/- The walk of package audit's Room. -/
import Derived.Test.YtfknaheijidhcaaAudX

import Derived.Deep.CutBlock

namespace Go.Proofs.Ytfknaheijidhcaa

open Go.RowKit

attribute [local go_sem ↓] Go.wp_at_zero Go.wp_at_succ

theorem Hp.upto_mono (h : Hp) (n : Int) {i j : Nat} (hij : i ≤ j) (hu : h.upto n i = true) : h.upto n j = true := by
  induction hij with
  | refl => exact hu
  | step _ ih => show (_ || _) = true; rw [ih]; rfl
theorem Hp.rw_le (h : Hp) (k : Nat) : h.rw k ≤ k := by
  induction k with
  | zero => exact Nat.le_refl _
  | succ k ih => unfold Hp.rw; split <;> omega
theorem pages_bd (n : Int) : 0 ≤ pagesV n ∧ pagesV n ≤ 8 := by
  unfold pagesV
  have := run_bd n
  split <;> omega

set_option maxRecDepth 100000 in
set_option maxHeartbeats 8000000 in
theorem room_any (h : Hp) (v : Value) (n : Int) (w : World) (hr : RdZ .u64 w v h.xs) (hf : h.fit) :
    Calls Try.prog 10 #[shV h, v, .int .i64 n] w fun e w' => e = .returned (.bool (h.room n)) ∧ Below w.heap.size w w' := by
  obtain ⟨ao, cap, hv, _, _, _⟩ := hr.cells
  generalize h.xs.length = m at hv
  subst hv
  have hop := fun X hX => open_any h (.slice ao m cap) X (hr.below (w' := X) hX)
  have hln := length_any n
  have hrun := run_any n
  have hrm : h.room n = (h.ok && lenB n && h.upto n h.p.toNat) := rfl
  have b1 := (Below.refl w.heap.size w).alloc (Nat.le_refl _) (.cells #[.int .i64 h.p, .int .i64 h.c, .int .i64 h.m] 23)
  by_cases hcond : (h.ok && lenB n) = true
  case neg =>
    have hc : h.ok = false ∨ (h.ok = true ∧ lenB n = false) := by
      rcases Bool.eq_false_or_eq_true h.ok with h1 | h1
      · right; refine ⟨h1, ?_⟩; rw [h1, Bool.true_and] at hcond; simpa using hcond
      · exact .inl h1
    have hcF : (h.ok && lenB n) = false := by simpa using hcond
    rw [hrm, hcF, Bool.false_and]
    clear hcond hcF hrm hrun
    rcases hc with hc | ⟨hc, hc2⟩
    · rw [hc] at hop
      generalize lenB n = lb at *
      replace hop := Lib.hid hop
      replace hln := Lib.hid hln
      clear hc
      go_enter Try.func10, Try.ntmps10
      go_wp2_with fail
      refine (hop.out _ b1).mono ?_
      rintro e w1 ⟨rfl, hb1⟩
      have hB := b1.trans (hb1.mono b1.size)
      go_wp2_with fail
      refine (hln.out _).mono ?_
      rintro e w2 ⟨rfl, rfl⟩
      go_wp2
      go_ret
      exact ⟨rfl, hB.alloc hB.size _⟩
    · rw [hc] at hop
      rw [hc2] at hln
      replace hop := Lib.hid hop
      replace hln := Lib.hid hln
      clear hc hc2
      go_enter Try.func10, Try.ntmps10
      go_wp2_with fail
      refine (hop.out _ b1).mono ?_
      rintro e w1 ⟨rfl, hb1⟩
      have hB := b1.trans (hb1.mono b1.size)
      go_wp2_with fail
      refine (hln.out _).mono ?_
      rintro e w2 ⟨rfl, rfl⟩
      go_wp2
      go_ret
      exact ⟨rfl, hB.alloc hB.size _⟩
  case pos =>
    rw [hrm, hcond, Bool.true_and]
    rw [Bool.and_eq_true] at hcond
    obtain ⟨hok, hlb⟩ := hcond
    have b : Bok w (.slice ao m cap) h := ⟨hok, hr, hf⟩
    obtain ⟨bp, _, _, _⟩ := b.bd
    rw [hok] at hop
    rw [hlb] at hln
    have hfr := fun a X (hX : Below w.heap.size w X) ha => free_any h (.slice ao m cap) a X (b.below hX) ha
    have hpb := pages_bd n
    have hpv : pagesV n = if wi n 33 512 = true then runV n else 1 := rfl
    obtain ⟨P, hP⟩ : ∃ P : Nat, Hid (h.p = P) := ⟨h.p.toNat, Lib.hid (by omega)⟩
    have hPt : h.p.toNat = P := by have := hP.out; omega
    rw [hPt]
    have hup0 : h.upto n 0 = false := rfl
    have hupS : ∀ k : Nat, h.upto n (k + 1) = (h.upto n k || decide (pagesV n ≤ (h.rw (k + 1) : Int))) := fun _ => rfl
    have hupM : ∀ k : Nat, k ≤ P → h.upto n k = true → h.upto n P = true := fun k hk => h.upto_mono n hk
    have hrw0 : h.rw 0 = 0 := rfl
    have hrwS : ∀ k : Nat, h.rw (k + 1) = if h.fr k = true then h.rw k + 1 else 0 := fun _ => rfl
    have hrwL := h.rw_le
    obtain ⟨U, hU⟩ : ∃ U, Hid (h.upto n P = U) := ⟨_, Lib.hid rfl⟩
    rw [hU.out]
    have key : ∀ w3 : World, Below w.heap.size w w3 → ∃ pg : Int, pg = pagesV n := fun _ _ => ⟨_, rfl⟩
    clear key
    replace hop := Lib.hid hop
    replace hln := Lib.hid hln
    replace hfr := Lib.hid hfr
    replace hup0 := Lib.hid hup0
    replace hupS := Lib.hid hupS
    replace hupM := Lib.hid hupM
    replace hrw0 := Lib.hid hrw0
    replace hrwS := Lib.hid hrwS
    replace hrwL := Lib.hid hrwL
    clear hok hlb hrm hPt b
    go_enter Try.func10, Try.ntmps10
    go_wp2_with fail
    refine (hop.out _ b1).mono ?_
    rintro e w1 ⟨rfl, hb1⟩
    have hB := (b1.trans (hb1.mono b1.size)).alloc (Nat.le_trans b1.size (by have := hb1.size; simpa using this)) (.cells #[.int .i64 h.p, .int .i64 h.c, .int .i64 h.m, .slice ao m cap] 72)
    have hb2 := hb1.alloc hb1.size (.cells #[.int .i64 h.p, .int .i64 h.c, .int .i64 h.m, .slice ao m cap] 72)
    have r0 := (hb2.block _ (by simp)).trans (heap_alloc_new w (.cells #[.int .i64 h.p, .int .i64 h.c, .int .i64 h.m] 23))
    have r3 := heap_alloc_new w1 (.cells #[.int .i64 h.p, .int .i64 h.c, .int .i64 h.m, .slice ao m cap] 72)
    go_upto_region 2 with fail
    obtain ⟨H, hH, hH'⟩ : ∃ H, Hid (H = w.heap.size) ∧ H = w.heap.size := ⟨_, Lib.hid rfl, rfl⟩
    obtain ⟨K, hK, hK'⟩ : ∃ K, Hid (K = w1.heap.size) ∧ K = w1.heap.size := ⟨_, Lib.hid rfl, rfl⟩
    rw [← hK'] at r3 ⊢
    rw [← hH'] at r0 ⊢
    clear hK' hH' hb1 hb2
    generalize w1.alloc (.cells #[.int .i64 h.p, .int .i64 h.c, .int .i64 h.m, .slice ao m cap] 72) = W at *
    have s0 : W.cell? ⟨H, 0, .none⟩ = some (.int .i64 h.p) := rowCells r0 0
    have k0 : W.cell? ⟨K, 0, .none⟩ = some (.int .i64 h.p) := rowCells r3 0
    have k1 : W.cell? ⟨K, 1, .none⟩ = some (.int .i64 h.c) := rowCells r3 1
    have k2 : W.cell? ⟨K, 2, .none⟩ = some (.int .i64 h.m) := rowCells r3 2
    have k3 : W.cell? ⟨K, 3, .none⟩ = some (.slice ao m cap) := rowCells r3 3
    rw [hP.out] at s0
    clear r0 r3
    go_wp2_with fail
    refine (hln.out _).mono ?_
    rintro e w2 ⟨rfl, hw⟩
    obtain rfl := hw.symm
    clear hw
    generalize wi n 33 512 = wb at *
    replace hrun := Lib.hid hrun
    replace hpv := Lib.hid hpv
    go_wp2_with fail
    refine (hrun.out _).mono ?_
    rintro e w2 ⟨rfl, hw⟩
    obtain rfl := hw.symm
    clear hw hrun
    go_upto_if 38 with fail
    go_cut [11] (fun v11 wx => v11 = .int .i64 (pagesV n) ∧ wx = W)
    case first =>
      rcases Bool.eq_false_or_eq_true wb with hwi | hwi
      · subst hwi
        go_wp2_with fail
        go_meet
        case rel => exact ⟨by rw [hpv.out]; rfl, rfl⟩
      · subst hwi
        go_wp2_with fail
        go_meet
        case rel => exact ⟨by rw [hpv.out]; rfl, rfl⟩
    case rest =>
      obtain ⟨rfl, hw⟩ := hcut
      obtain rfl := hw.symm
      clear hw hpv
      generalize pagesV n = pg at *
      go_wp2_with fail
      go_loopw [13, 41] (fun vr vi wr => ∃ i : Nat, i ≤ P ∧ vi = .int .i64 i ∧ vr = .int .i64 (h.rw i : Int) ∧ Hid (h.upto n i = false) ∧ Below W.heap.size W wr) (fun _ vi _ => P - (intOf vi).toNat)
      case atStart => exact ⟨0, Nat.zero_le _, rfl, by rw [hrw0.out]; rfl, hup0, Below.refl _ _⟩
      case round =>
        obtain ⟨i, hi, rfl, rfl, hui, hbr⟩ := hrel
        have d0 := keepF hbr _ _ _ k0
        have d1 := keepF hbr _ _ _ k1
        have d2 := keepF hbr _ _ _ k2
        have d3 := keepF hbr _ _ _ k3
        have hBr := hB.trans (hbr.mono hB.size)
        by_cases hlt : i < P
        · have hfa := hfr.out i wr hBr (by have := hP.out; omega)
          have hstep := hrwS.out i
          have hus := hupS.out i
          have hum := hupM.out (i + 1) (by omega)
          have hle := hrwL.out i
          rw [hui.out, Bool.false_or] at hus
          generalize h.fr i = fb at *
          generalize hR : h.rw i = ri at *
          have hP64 : P ≤ 64 := by have := hP.out; omega
          have ww : IntKind.i64.wrap ((ri : Int) + 1) = (ri : Int) + 1 := IntWalk.i64_in _ ⟨by omega, by omega⟩
          replace hR := Lib.hid hR
          replace hfa := Lib.hid hfa
          rcases Bool.eq_false_or_eq_true fb with hb | hb
          · subst hb
            rw [if_pos rfl] at hstep
            rw [hstep] at hus
            by_cases hpg : pg ≤ ((ri + 1 : Nat) : Int)
            · rw [decide_eq_true hpg] at hus
              have hfin := hum hus
              replace hfin := Lib.hid hfin
              have hpg' : pg ≤ (ri : Int) + 1 := by omega
              clear hus hum hstep
              go_wp2_with fail
              refine hfa.out.mono ?_
              rintro e w3 ⟨rfl, hb3⟩
              go_wp2
              go_ret
              exact ⟨by rw [← hU.out, hfin.out]; rfl, hBr.trans (hb3.mono hBr.size)⟩
            · rw [decide_eq_false hpg] at hus
              replace hus := Lib.hid hus
              replace hstep := Lib.hid hstep
              have hpg' : ¬ pg ≤ (ri : Int) + 1 := by omega
              clear hum
              go_wp2_with fail
              refine hfa.out.mono ?_
              rintro e w3 ⟨rfl, hb3⟩
              go_wp2
              exact ⟨⟨i + 1, by omega, by go_num, by rw [hstep.out]; go_num, hus, hbr.trans (hb3.mono hbr.size)⟩, by simp [intOf]; omega⟩
          · subst hb
            rw [if_neg Bool.false_ne_true] at hstep
            rw [hstep] at hus
            by_cases hpg : pg ≤ ((0 : Nat) : Int)
            · rw [decide_eq_true hpg] at hus
              have hfin := hum hus
              replace hfin := Lib.hid hfin
              have hpg' : pg ≤ 0 := by omega
              clear hus hum hstep
              go_wp2_with fail
              refine hfa.out.mono ?_
              rintro e w3 ⟨rfl, hb3⟩
              go_wp2
              go_ret
              exact ⟨by rw [← hU.out, hfin.out]; rfl, hBr.trans (hb3.mono hBr.size)⟩
            · rw [decide_eq_false hpg] at hus
              replace hus := Lib.hid hus
              replace hstep := Lib.hid hstep
              have hpg' : ¬ pg ≤ 0 := by omega
              clear hum
              go_wp2_with fail
              refine hfa.out.mono ?_
              rintro e w3 ⟨rfl, hb3⟩
              go_wp2
              exact ⟨⟨i + 1, by omega, by go_num, by rw [hstep.out]; rfl, hus, hbr.trans (hb3.mono hbr.size)⟩, by simp [intOf]; omega⟩
        · have hie : i = P := by omega
          subst hie
          clear hlt
          have hj0 : ¬ ((i : Int) < (i : Int)) := by omega
          go_wp2
          go_ret
          exact ⟨by rw [← hU.out, hui.out]; rfl, hBr⟩
end Go.Proofs.Ytfknaheijidhcaa

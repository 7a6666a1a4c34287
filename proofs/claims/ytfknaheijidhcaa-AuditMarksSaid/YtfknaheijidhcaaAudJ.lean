/- The walk of package audit's Sound. -/
import Derived.Test.YtfknaheijidhcaaAudI

import Derived.Test.YtfknaheijidhcaaAudF

namespace Go.Proofs.Ytfknaheijidhcaa

open Go.RowKit

attribute [local go_sem ↓] Go.wp_at_zero Go.wp_at_succ

def Hp.sndT (h : Hp) : Nat → Bool
  | 0 => true
  | i + 1 => h.sndT i && h.snd i
def Hp.sound (h : Hp) : Bool := h.ok && h.sndT h.p.toNat
theorem Hp.sndT_mono (h : Hp) {i j : Nat} (hij : i ≤ j) (hf : h.sndT i = false) : h.sndT j = false := by
  induction hij with
  | refl => exact hf
  | step _ ih => show (_ && _) = false; rw [ih]; rfl
theorem Hp.sndT_get (h : Hp) {n : Nat} (ht : h.sndT n = true) : ∀ i, i < n → h.snd (i : Nat) = true := by
  induction n with
  | zero => intro i hi; omega
  | succ n ih =>
    intro i hi
    have h1 : (h.sndT n && h.snd n) = true := ht
    rw [Bool.and_eq_true] at h1
    rcases Nat.lt_or_ge i n with h2 | h2
    · exact ih h1.1 i h2
    · have : i = n := by omega
      subst this; exact h1.2
/-- What Sound answers: true only where all pages are sound, and, where there are no magazines, wherever they are. -/
def SndRet (h : Hp) (e : Ending) : Prop := ∃ r : Bool, e = .returned (.bool r) ∧ (r = true → h.sound = true) ∧ (h.sound = true → h.m = 0 → r = true)

set_option maxRecDepth 100000 in
set_option maxHeartbeats 4000000 in
theorem soundAll_any (h : Hp) (v : Value) (w : World) (hr : RdZ .u64 w v h.xs) (hf : h.fit) :
    Calls Try.prog 26 #[shV h, v] w fun e w' => SndRet h e ∧ Below w.heap.size w w' := by
  obtain ⟨ao, cap, hv, _, _, _⟩ := hr.cells
  generalize h.xs.length = m at hv
  subst hv
  have hop := fun X hX => open_any h (.slice ao m cap) X (hr.below (w' := X) hX)
  have b1 := (Below.refl w.heap.size w).alloc (Nat.le_refl _) (.cells #[.int .i64 h.p, .int .i64 h.c, .int .i64 h.m] 23)
  have hsd : h.sound = (h.ok && h.sndT h.p.toNat) := rfl
  rcases Bool.eq_false_or_eq_true h.ok with hok | hok
  case inr =>
    rw [hok] at hop hsd
    have hs0 : h.sound = false := hsd
    clear hsd hok
    replace hop := Lib.hid hop
    replace hs0 := Lib.hid hs0
    go_enter Try.func26, Try.ntmps26
    go_wp2_with fail
    refine (hop.out _ b1).mono ?_
    rintro e w1 ⟨rfl, hb1⟩
    have hB := b1.trans (hb1.mono b1.size)
    go_wp2
    go_ret
    exact ⟨⟨false, rfl, fun e => (Bool.false_ne_true e).elim, fun e => by rw [hs0.out] at e; cases e⟩, hB.alloc hB.size _⟩
  case inl =>
    have b : Bok w (.slice ao m cap) h := ⟨hok, hr, hf⟩
    obtain ⟨bp, _, _, _⟩ := b.bd
    rw [hok] at hop
    rw [hok, Bool.true_and] at hsd
    have hso := fun a X (hX : Below w.heap.size w X) ha => sound_any h (.slice ao m cap) a X (b.below hX) ha
    have hmg := fun X (hX : Below w.heap.size w X) => magazines_any h (.slice ao m cap) X (b.below hX)
    obtain ⟨P, hP⟩ : ∃ P : Nat, Hid (h.p = P) := ⟨h.p.toNat, Lib.hid (by omega)⟩
    have hPt : h.p.toNat = P := by have := hP.out; omega
    rw [hPt] at hsd
    have hT0 : Hid (h.sndT 0 = true) := Lib.hid rfl
    have hTS : Hid (∀ i : Nat, h.sndT (i + 1) = (h.sndT i && h.snd i)) := Lib.hid fun _ => rfl
    have hTM : Hid (∀ i, i ≤ P → h.sndT i = false → h.sndT P = false) := Lib.hid fun i hi => h.sndT_mono hi
    replace hop := Lib.hid hop
    replace hso := Lib.hid hso
    replace hmg := Lib.hid hmg
    replace hsd := Lib.hid hsd
    clear hok hPt b
    go_enter Try.func26, Try.ntmps26
    go_wp2_with fail
    refine (hop.out _ b1).mono ?_
    rintro e w1 ⟨rfl, hb1⟩
    have hB1 := b1.trans (hb1.mono b1.size)
    have hB := hB1.alloc hB1.size (.cells #[.int .i64 h.p, .int .i64 h.c, .int .i64 h.m, .slice ao m cap] 72)
    have hb2 := hb1.alloc hb1.size (.cells #[.int .i64 h.p, .int .i64 h.c, .int .i64 h.m, .slice ao m cap] 72)
    have r0 := (hb2.block _ (by simp)).trans (heap_alloc_new w (.cells #[.int .i64 h.p, .int .i64 h.c, .int .i64 h.m] 23))
    have r3 := heap_alloc_new w1 (.cells #[.int .i64 h.p, .int .i64 h.c, .int .i64 h.m, .slice ao m cap] 72)
    go_upto_region 2 with fail
    obtain ⟨H, hH, hH'⟩ : ∃ H, Hid (H = w.heap.size) ∧ H = w.heap.size := ⟨_, Lib.hid rfl, rfl⟩
    obtain ⟨K, hK, hK'⟩ : ∃ K, Hid (K = w1.heap.size) ∧ K = w1.heap.size := ⟨_, Lib.hid rfl, rfl⟩
    rw [← hK'] at r3 ⊢
    rw [← hH'] at r0 ⊢
    clear hK' hH' hb1 hb2 hB1
    generalize w1.alloc (.cells #[.int .i64 h.p, .int .i64 h.c, .int .i64 h.m, .slice ao m cap] 72) = W at *
    have s0 : W.cell? ⟨H, 0, .none⟩ = some (.int .i64 h.p) := rowCells r0 0
    have k0 : W.cell? ⟨K, 0, .none⟩ = some (.int .i64 h.p) := rowCells r3 0
    have k1 : W.cell? ⟨K, 1, .none⟩ = some (.int .i64 h.c) := rowCells r3 1
    have k2 : W.cell? ⟨K, 2, .none⟩ = some (.int .i64 h.m) := rowCells r3 2
    have k3 : W.cell? ⟨K, 3, .none⟩ = some (.slice ao m cap) := rowCells r3 3
    clear r0 r3
    go_wp2_with fail
    go_loopw [18] (fun vi wr => ∃ i : Nat, i ≤ P ∧ vi = .int .i64 i ∧ Hid (h.sndT i = true) ∧ Below W.heap.size W wr) (fun vi _ => P - (intOf vi).toNat)
    case atStart => exact ⟨0, Nat.zero_le _, rfl, hT0, Below.refl _ _⟩
    case round =>
      obtain ⟨i, hi, rfl, hti, hbr⟩ := hrel
      have d0 := keepF hbr _ _ _ k0
      have d1 := keepF hbr _ _ _ k1
      have d2 := keepF hbr _ _ _ k2
      have d3 := keepF hbr _ _ _ k3
      have hBr := hB.trans (hbr.mono hB.size)
      by_cases hlt : (i : Int) < h.p
      · have hiP : i < P := by have := hP.out; omega
        have hsx := hso.out i wr hBr (by omega)
        have hstep := hTS.out i
        rw [hti.out, Bool.true_and] at hstep
        have hff := hTM.out (i + 1) (by omega)
        generalize h.snd i = sb at *
        replace hsx := Lib.hid hsx
        rcases Bool.eq_false_or_eq_true sb with hs | hs
        · subst hs
          replace hstep := Lib.hid hstep
          clear hff
          go_wp2_with fail
          refine hsx.out.mono ?_
          rintro e w3 ⟨rfl, hb3⟩
          go_wp2
          exact ⟨⟨i + 1, by omega, by go_num, hstep, hbr.trans (hb3.mono hbr.size)⟩, by simp [intOf]; omega⟩
        · subst hs
          have hfin := hsd.out.trans (hff hstep)
          replace hfin := Lib.hid hfin
          clear hff hstep
          go_wp2_with fail
          refine hsx.out.mono ?_
          rintro e w3 ⟨rfl, hb3⟩
          go_wp2
          go_ret
          exact ⟨⟨false, rfl, fun e => (Bool.false_ne_true e).elim, fun e => by rw [hfin.out] at e; cases e⟩, hBr.trans (hb3.mono hBr.size)⟩
      · have hie : i = P := by have := hP.out; omega
        subst hie
        go_wp2_with fail
        refine (hmg.out _ hBr).mono ?_
        rintro e w3 ⟨⟨r, rfl, hr0⟩, hb3⟩
        replace hr0 := Lib.hid hr0
        go_wp2
        go_ret
        exact ⟨⟨r, rfl, fun _ => hsd.out.trans hti.out, fun _ hm => hr0.out hm⟩, hBr.trans (hb3.mono hBr.size)⟩
end Go.Proofs.Ytfknaheijidhcaa

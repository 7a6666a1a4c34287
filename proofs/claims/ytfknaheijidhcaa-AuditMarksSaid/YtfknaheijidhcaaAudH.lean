/- The walk of package audit's Holder. -/
import Derived.Test.YtfknaheijidhcaaAudX

import Derived.Test.YtfknaheijidhcaaOnly

import Derived.Deep.CutBlock

namespace Go.Proofs.Ytfknaheijidhcaa

open Go.RowKit

attribute [local go_sem ↓] Go.wp_at_zero Go.wp_at_succ

def Hp.at' (h : Hp) (a : Int) : Bool := h.ok && splitB h.p h.c h.m a
/-- Does anybody hold a word, as a slot on its way? -/
def Hp.wayB (h : Hp) (a : Int) : Bool := (h.pb (a / 64) && h.pk (a / 64) == 2) && h.sk (a / 64) (a % 64 / sizeV (h.pa (a / 64))) == 2
def Hp.holdB (h : Hp) (a : Int) : Bool := h.at' a && (h.hb (a / 64) || h.wayB a)
def Hp.holdC (h : Hp) (a : Int) : Int := if h.at' a = true then (if h.hb (a / 64) = true then h.hc (a / 64) else if h.wayB a = true then h.sa (a / 64) (a % 64 / sizeV (h.pa (a / 64))) else 0) else 0

/-- A pair that lies at block g. -/
def PairAt (w : World) (g : Nat) (x y : Int) : Prop := w.heap[g]? = some (.cells #[.int .i64 x, .int .i64 y] 87 (0, 0))
theorem PairAt.below {w w' : World} {g : Nat} {x y : Int} (h : PairAt w g x y) (hb : Below w.heap.size w w') : PairAt w' g x y := (hb.block g (Array.getElem?_eq_some_iff.1 h).1).trans h
theorem PairAt.c0 {w : World} {g : Nat} {x y : Int} (h : PairAt w g x y) : w.cell? ⟨g, 0, .none⟩ = some (.int .i64 x) := rowCells h 0
theorem PairAt.c1 {w : World} {g : Nat} {x y : Int} (h : PairAt w g x y) : w.cell? ⟨g, 1, .none⟩ = some (.int .i64 y) := rowCells h 1
theorem PairAt.fr {w : World} {g : Nat} {x y : Int} (h : PairAt w g x y) (i : Nat) : w.frozen? ⟨g, i, .none⟩ = false := rowFree h i
theorem PairAt.lt {w : World} {g : Nat} {x y : Int} (h : PairAt w g x y) : g < w.heap.size := (Array.getElem?_eq_some_iff.1 h).1

set_option maxRecDepth 100000 in
set_option maxHeartbeats 8000000 in
theorem holderW_any (h : Hp) (v : Value) (a : Int) (w : World) (hr : RdZ .u64 w v h.xs) (hf : h.fit) :
    Calls Try.prog 32 #[shV h, v, .int .i64 a] w fun e w' => e = .returned (.tuple #[.int .i64 (h.holdC a), .bool (h.holdB a)]) ∧ Below w.heap.size w w' := by
  obtain ⟨ao, cap, hv, _, _, _⟩ := hr.cells
  generalize h.xs.length = m at hv
  subst hv
  have hop := fun X hX => open_any h (.slice ao m cap) X (hr.below (w' := X) hX)
  have hsp := split_any h.p h.c h.m a
  have b1 := (Below.refl w.heap.size w).alloc (Nat.le_refl _) (.cells #[.int .i64 h.p, .int .i64 h.c, .int .i64 h.m] 23)
  have hat : h.at' a = (h.ok && splitB h.p h.c h.m a) := rfl
  have hB0 : h.holdB a = (h.at' a && (h.hb (a / 64) || h.wayB a)) := rfl
  have hC0 : h.holdC a = if h.at' a = true then (if h.hb (a / 64) = true then h.hc (a / 64) else if h.wayB a = true then h.sa (a / 64) (a % 64 / sizeV (h.pa (a / 64))) else 0) else 0 := rfl
  by_cases hcond : h.at' a = true
  case neg =>
    have hcF : h.at' a = false := by simpa using hcond
    rw [hB0, hC0, hcF, if_neg Bool.false_ne_true, Bool.false_and]
    rw [hcF] at hat
    clear hB0 hC0 hcond hcF
    rcases Bool.eq_false_or_eq_true h.ok with hc | hc <;> rcases Bool.eq_false_or_eq_true (splitB h.p h.c h.m a) with hs | hs
    · rw [hc, hs] at hat; cases hat
    · rw [hc] at hop
      rw [hs] at hsp
      replace hsp : ∀ w, Calls Try.prog 64 #[.agg #[.int .i64 h.p, .int .i64 h.c, .int .i64 h.m], .int .i64 a] w fun e w' => e = .returned (.tuple #[.int .i64 0, .int .i64 0, .bool false]) ∧ Below w.heap.size w w' := hsp
      replace hop := Lib.hid hop
      replace hsp := Lib.hid hsp
      clear hc hs hat
      go_enter Try.func32, Try.ntmps32
      go_wp2_with fail
      refine (hop.out _ b1).mono ?_
      rintro e w1 ⟨rfl, hb1⟩
      have hB1 := b1.trans (hb1.mono b1.size)
      have hB := hB1.alloc hB1.size (.cells #[.int .i64 h.p, .int .i64 h.c, .int .i64 h.m, .slice ao m cap] 72)
      have hb2 := hb1.alloc hb1.size (.cells #[.int .i64 h.p, .int .i64 h.c, .int .i64 h.m, .slice ao m cap] 72)
      have r0 := (hb2.block _ (by simp)).trans (heap_alloc_new w (.cells #[.int .i64 h.p, .int .i64 h.c, .int .i64 h.m] 23))
      have r3 := heap_alloc_new w1 (.cells #[.int .i64 h.p, .int .i64 h.c, .int .i64 h.m, .slice ao m cap] 72)
      go_upto_region 2 with fail
      obtain ⟨H, hH, hH'⟩ : ∃ H, Hid (H = w.heap.size) ∧ H = w.heap.size := ⟨_, Lib.hid rfl, rfl⟩
      obtain ⟨K, hK, hK'⟩ : ∃ K, Hid (K = w1.heap.size) ∧ K = w1.heap.size := ⟨_, Lib.hid rfl, rfl⟩
      rw [← hK'] at r3 ⊢
      rw [← hH'] at r0 ⊢
      clear hK' hH' hb1 hb2 hB1
      generalize w1.alloc (.cells #[.int .i64 h.p, .int .i64 h.c, .int .i64 h.m, .slice ao m cap] 72) = W at *
      have s0 : W.cell? ⟨H, 0, .none⟩ = some (.int .i64 h.p) := rowCells r0 0
      have s1 : W.cell? ⟨H, 1, .none⟩ = some (.int .i64 h.c) := rowCells r0 1
      have s2 : W.cell? ⟨H, 2, .none⟩ = some (.int .i64 h.m) := rowCells r0 2
      have k0 : W.cell? ⟨K, 0, .none⟩ = some (.int .i64 h.p) := rowCells r3 0
      have k1 : W.cell? ⟨K, 1, .none⟩ = some (.int .i64 h.c) := rowCells r3 1
      have k2 : W.cell? ⟨K, 2, .none⟩ = some (.int .i64 h.m) := rowCells r3 2
      have k3 : W.cell? ⟨K, 3, .none⟩ = some (.slice ao m cap) := rowCells r3 3
      clear r0 r3
      go_wp2_with fail
      refine (hsp.out _).mono ?_
      rintro e w2 ⟨rfl, hb2⟩
      have hB2 := hB.trans (hb2.mono hB.size)
      have k0 := keepF hb2 _ _ _ k0
      have k1 := keepF hb2 _ _ _ k1
      have k2 := keepF hb2 _ _ _ k2
      have k3 := keepF hb2 _ _ _ k3
      clear s0 s1 s2 hb2 hB
      go_wp2
      go_ret2
      exact ⟨rfl, hB2⟩
    · rw [hc] at hop
      rw [hs] at hsp
      replace hsp : ∀ w, Calls Try.prog 64 #[.agg #[.int .i64 h.p, .int .i64 h.c, .int .i64 h.m], .int .i64 a] w fun e w' => e = .returned (.tuple #[.int .i64 (a / 64), .int .i64 (a % 64), .bool true]) ∧ Below w.heap.size w w' := hsp
      replace hop := Lib.hid hop
      replace hsp := Lib.hid hsp
      clear hc hs hat
      go_enter Try.func32, Try.ntmps32
      go_wp2_with fail
      refine (hop.out _ b1).mono ?_
      rintro e w1 ⟨rfl, hb1⟩
      have hB1 := b1.trans (hb1.mono b1.size)
      have hB := hB1.alloc hB1.size (.cells #[.int .i64 h.p, .int .i64 h.c, .int .i64 h.m, .slice ao m cap] 72)
      have hb2 := hb1.alloc hb1.size (.cells #[.int .i64 h.p, .int .i64 h.c, .int .i64 h.m, .slice ao m cap] 72)
      have r0 := (hb2.block _ (by simp)).trans (heap_alloc_new w (.cells #[.int .i64 h.p, .int .i64 h.c, .int .i64 h.m] 23))
      have r3 := heap_alloc_new w1 (.cells #[.int .i64 h.p, .int .i64 h.c, .int .i64 h.m, .slice ao m cap] 72)
      go_upto_region 2 with fail
      obtain ⟨H, hH, hH'⟩ : ∃ H, Hid (H = w.heap.size) ∧ H = w.heap.size := ⟨_, Lib.hid rfl, rfl⟩
      obtain ⟨K, hK, hK'⟩ : ∃ K, Hid (K = w1.heap.size) ∧ K = w1.heap.size := ⟨_, Lib.hid rfl, rfl⟩
      rw [← hK'] at r3 ⊢
      rw [← hH'] at r0 ⊢
      clear hK' hH' hb1 hb2 hB1
      generalize w1.alloc (.cells #[.int .i64 h.p, .int .i64 h.c, .int .i64 h.m, .slice ao m cap] 72) = W at *
      have s0 : W.cell? ⟨H, 0, .none⟩ = some (.int .i64 h.p) := rowCells r0 0
      have s1 : W.cell? ⟨H, 1, .none⟩ = some (.int .i64 h.c) := rowCells r0 1
      have s2 : W.cell? ⟨H, 2, .none⟩ = some (.int .i64 h.m) := rowCells r0 2
      have k0 : W.cell? ⟨K, 0, .none⟩ = some (.int .i64 h.p) := rowCells r3 0
      have k1 : W.cell? ⟨K, 1, .none⟩ = some (.int .i64 h.c) := rowCells r3 1
      have k2 : W.cell? ⟨K, 2, .none⟩ = some (.int .i64 h.m) := rowCells r3 2
      have k3 : W.cell? ⟨K, 3, .none⟩ = some (.slice ao m cap) := rowCells r3 3
      clear r0 r3
      go_wp2_with fail
      refine (hsp.out _).mono ?_
      rintro e w2 ⟨rfl, hb2⟩
      have hB2 := hB.trans (hb2.mono hB.size)
      have k0 := keepF hb2 _ _ _ k0
      have k1 := keepF hb2 _ _ _ k1
      have k2 := keepF hb2 _ _ _ k2
      have k3 := keepF hb2 _ _ _ k3
      clear s0 s1 s2 hb2 hB
      go_wp2
      go_ret2
      exact ⟨rfl, hB2⟩
    · rw [hc] at hop
      rw [hs] at hsp
      replace hsp : ∀ w, Calls Try.prog 64 #[.agg #[.int .i64 h.p, .int .i64 h.c, .int .i64 h.m], .int .i64 a] w fun e w' => e = .returned (.tuple #[.int .i64 0, .int .i64 0, .bool false]) ∧ Below w.heap.size w w' := hsp
      replace hop := Lib.hid hop
      replace hsp := Lib.hid hsp
      clear hc hs hat
      go_enter Try.func32, Try.ntmps32
      go_wp2_with fail
      refine (hop.out _ b1).mono ?_
      rintro e w1 ⟨rfl, hb1⟩
      have hB1 := b1.trans (hb1.mono b1.size)
      have hB := hB1.alloc hB1.size (.cells #[.int .i64 h.p, .int .i64 h.c, .int .i64 h.m, .slice ao m cap] 72)
      have hb2 := hb1.alloc hb1.size (.cells #[.int .i64 h.p, .int .i64 h.c, .int .i64 h.m, .slice ao m cap] 72)
      have r0 := (hb2.block _ (by simp)).trans (heap_alloc_new w (.cells #[.int .i64 h.p, .int .i64 h.c, .int .i64 h.m] 23))
      have r3 := heap_alloc_new w1 (.cells #[.int .i64 h.p, .int .i64 h.c, .int .i64 h.m, .slice ao m cap] 72)
      go_upto_region 2 with fail
      obtain ⟨H, hH, hH'⟩ : ∃ H, Hid (H = w.heap.size) ∧ H = w.heap.size := ⟨_, Lib.hid rfl, rfl⟩
      obtain ⟨K, hK, hK'⟩ : ∃ K, Hid (K = w1.heap.size) ∧ K = w1.heap.size := ⟨_, Lib.hid rfl, rfl⟩
      rw [← hK'] at r3 ⊢
      rw [← hH'] at r0 ⊢
      clear hK' hH' hb1 hb2 hB1
      generalize w1.alloc (.cells #[.int .i64 h.p, .int .i64 h.c, .int .i64 h.m, .slice ao m cap] 72) = W at *
      have s0 : W.cell? ⟨H, 0, .none⟩ = some (.int .i64 h.p) := rowCells r0 0
      have s1 : W.cell? ⟨H, 1, .none⟩ = some (.int .i64 h.c) := rowCells r0 1
      have s2 : W.cell? ⟨H, 2, .none⟩ = some (.int .i64 h.m) := rowCells r0 2
      have k0 : W.cell? ⟨K, 0, .none⟩ = some (.int .i64 h.p) := rowCells r3 0
      have k1 : W.cell? ⟨K, 1, .none⟩ = some (.int .i64 h.c) := rowCells r3 1
      have k2 : W.cell? ⟨K, 2, .none⟩ = some (.int .i64 h.m) := rowCells r3 2
      have k3 : W.cell? ⟨K, 3, .none⟩ = some (.slice ao m cap) := rowCells r3 3
      clear r0 r3
      go_wp2_with fail
      refine (hsp.out _).mono ?_
      rintro e w2 ⟨rfl, hb2⟩
      have hB2 := hB.trans (hb2.mono hB.size)
      have k0 := keepF hb2 _ _ _ k0
      have k1 := keepF hb2 _ _ _ k1
      have k2 := keepF hb2 _ _ _ k2
      have k3 := keepF hb2 _ _ _ k3
      clear s0 s1 s2 hb2 hB
      go_wp2
      go_ret2
      exact ⟨rfl, hB2⟩
  case pos =>
    rw [hB0, hC0, hcond, if_pos rfl, Bool.true_and]
    rw [hcond] at hat
    have hat2 := hat.symm
    rw [Bool.and_eq_true] at hat2
    obtain ⟨hok, hs⟩ := hat2
    have b : Bok w (.slice ao m cap) h := ⟨hok, hr, hf⟩
    rw [hok] at hop
    rw [hs] at hsp
    unfold splitB at hs
    rw [Bool.and_eq_true] at hs
    have ha := wi_iff.1 hs.2
    have hpi : 0 ≤ a / 64 ∧ a / 64 < h.p := by omega
    have hho := fun X (hX : Below w.heap.size w X) => holder_any h (.slice ao m cap) (a / 64) X (b.below hX) hpi
    have hpg := fun X (hX : Below w.heap.size w X) => page_any h (.slice ao m cap) (a / 64) X (b.below hX) hpi
    have hsl := fun i X (hX : Below w.heap.size w X) hi => slot_any h (.slice ao m cap) (a / 64) i X (b.below hX) hpi hi
    have hk2 := Hp.kind2 (h := h) (a := a / 64)
    have hw0 : h.wayB a = ((h.pb (a / 64) && h.pk (a / 64) == 2) && h.sk (a / 64) (a % 64 / sizeV (h.pa (a / 64))) == 2) := rfl
    replace hsp : ∀ w, Calls Try.prog 64 #[.agg #[.int .i64 h.p, .int .i64 h.c, .int .i64 h.m], .int .i64 a] w fun e w' => e = .returned (.tuple #[.int .i64 (a / 64), .int .i64 (a % 64), .bool true]) ∧ Below w.heap.size w w' := hsp
    replace hop := Lib.hid hop
    replace hsp := Lib.hid hsp
    clear hB0 hC0 hcond hat hok hs b
    have ho0 : 0 ≤ a % 64 ∧ a % 64 < 64 := by omega
    generalize a / 64 = q at *
    generalize a % 64 = o at *
    generalize h.hb q = hb at *
    generalize h.hc q = hc at *
    replace hho := Lib.hid hho
    rcases Bool.eq_false_or_eq_true hb with hhb | hhb
    · subst hhb
      rw [if_pos rfl, Bool.true_or]
      clear hpg hsl hk2 hw0
      go_enter Try.func32, Try.ntmps32
      go_wp2_with fail
      refine (hop.out _ b1).mono ?_
      rintro e w1 ⟨rfl, hb1⟩
      have hB1 := b1.trans (hb1.mono b1.size)
      have hB := hB1.alloc hB1.size (.cells #[.int .i64 h.p, .int .i64 h.c, .int .i64 h.m, .slice ao m cap] 72)
      have hb2 := hb1.alloc hb1.size (.cells #[.int .i64 h.p, .int .i64 h.c, .int .i64 h.m, .slice ao m cap] 72)
      have r0 := (hb2.block _ (by simp)).trans (heap_alloc_new w (.cells #[.int .i64 h.p, .int .i64 h.c, .int .i64 h.m] 23))
      have r3 := heap_alloc_new w1 (.cells #[.int .i64 h.p, .int .i64 h.c, .int .i64 h.m, .slice ao m cap] 72)
      go_upto_region 2 with fail
      obtain ⟨H, hH, hH'⟩ : ∃ H, Hid (H = w.heap.size) ∧ H = w.heap.size := ⟨_, Lib.hid rfl, rfl⟩
      obtain ⟨K, hK, hK'⟩ : ∃ K, Hid (K = w1.heap.size) ∧ K = w1.heap.size := ⟨_, Lib.hid rfl, rfl⟩
      rw [← hK'] at r3 ⊢
      rw [← hH'] at r0 ⊢
      clear hK' hH' hb1 hb2 hB1
      generalize w1.alloc (.cells #[.int .i64 h.p, .int .i64 h.c, .int .i64 h.m, .slice ao m cap] 72) = W at *
      have s0 : W.cell? ⟨H, 0, .none⟩ = some (.int .i64 h.p) := rowCells r0 0
      have s1 : W.cell? ⟨H, 1, .none⟩ = some (.int .i64 h.c) := rowCells r0 1
      have s2 : W.cell? ⟨H, 2, .none⟩ = some (.int .i64 h.m) := rowCells r0 2
      have k0 : W.cell? ⟨K, 0, .none⟩ = some (.int .i64 h.p) := rowCells r3 0
      have k1 : W.cell? ⟨K, 1, .none⟩ = some (.int .i64 h.c) := rowCells r3 1
      have k2 : W.cell? ⟨K, 2, .none⟩ = some (.int .i64 h.m) := rowCells r3 2
      have k3 : W.cell? ⟨K, 3, .none⟩ = some (.slice ao m cap) := rowCells r3 3
      clear r0 r3
      go_wp2_with fail
      refine (hsp.out _).mono ?_
      rintro e w2 ⟨rfl, hb2⟩
      have hB2 := hB.trans (hb2.mono hB.size)
      have k0 := keepF hb2 _ _ _ k0
      have k1 := keepF hb2 _ _ _ k1
      have k2 := keepF hb2 _ _ _ k2
      have k3 := keepF hb2 _ _ _ k3
      clear s0 s1 s2 hb2 hB
      go_wp2_with fail
      refine (hho.out _ hB2).mono ?_
      rintro e w3 ⟨rfl, hb3⟩
      go_wp2
      go_ret2
      exact ⟨rfl, hB2.trans (hb3.mono hB2.size)⟩
    · subst hhb
      rw [if_neg Bool.false_ne_true, Bool.false_or]
      generalize h.pb q = pb at *
      generalize h.pk q = pk at *
      generalize h.pa q = pa at *
      generalize h.pn q = pn at *
      replace hpg := Lib.hid hpg
      by_cases hpp : (pb && pk == 2) = true
      case neg =>
        have hppF : (pb && pk == 2) = false := by simpa using hpp
        rw [hppF, Bool.false_and] at hw0
        rw [hw0, if_neg Bool.false_ne_true]
        have h5 : pb = false ∨ (pb = true ∧ (pk == 2) = false) := by
          rcases Bool.eq_false_or_eq_true pb with h1 | h1
          · right; refine ⟨h1, ?_⟩; rw [h1, Bool.true_and] at hppF; exact hppF
          · exact .inl h1
        clear hpp hppF hw0 hk2 hsl
        rcases h5 with h5 | ⟨h5, h6⟩
        · subst h5
          go_enter Try.func32, Try.ntmps32
          go_wp2_with fail
          refine (hop.out _ b1).mono ?_
          rintro e w1 ⟨rfl, hb1⟩
          have hB1 := b1.trans (hb1.mono b1.size)
          have hB := hB1.alloc hB1.size (.cells #[.int .i64 h.p, .int .i64 h.c, .int .i64 h.m, .slice ao m cap] 72)
          have hb2 := hb1.alloc hb1.size (.cells #[.int .i64 h.p, .int .i64 h.c, .int .i64 h.m, .slice ao m cap] 72)
          have r0 := (hb2.block _ (by simp)).trans (heap_alloc_new w (.cells #[.int .i64 h.p, .int .i64 h.c, .int .i64 h.m] 23))
          have r3 := heap_alloc_new w1 (.cells #[.int .i64 h.p, .int .i64 h.c, .int .i64 h.m, .slice ao m cap] 72)
          go_upto_region 2 with fail
          obtain ⟨H, hH, hH'⟩ : ∃ H, Hid (H = w.heap.size) ∧ H = w.heap.size := ⟨_, Lib.hid rfl, rfl⟩
          obtain ⟨K, hK, hK'⟩ : ∃ K, Hid (K = w1.heap.size) ∧ K = w1.heap.size := ⟨_, Lib.hid rfl, rfl⟩
          rw [← hK'] at r3 ⊢
          rw [← hH'] at r0 ⊢
          clear hK' hH' hb1 hb2 hB1
          generalize w1.alloc (.cells #[.int .i64 h.p, .int .i64 h.c, .int .i64 h.m, .slice ao m cap] 72) = W at *
          have s0 : W.cell? ⟨H, 0, .none⟩ = some (.int .i64 h.p) := rowCells r0 0
          have s1 : W.cell? ⟨H, 1, .none⟩ = some (.int .i64 h.c) := rowCells r0 1
          have s2 : W.cell? ⟨H, 2, .none⟩ = some (.int .i64 h.m) := rowCells r0 2
          have k0 : W.cell? ⟨K, 0, .none⟩ = some (.int .i64 h.p) := rowCells r3 0
          have k1 : W.cell? ⟨K, 1, .none⟩ = some (.int .i64 h.c) := rowCells r3 1
          have k2 : W.cell? ⟨K, 2, .none⟩ = some (.int .i64 h.m) := rowCells r3 2
          have k3 : W.cell? ⟨K, 3, .none⟩ = some (.slice ao m cap) := rowCells r3 3
          clear r0 r3
          go_wp2_with fail
          refine (hsp.out _).mono ?_
          rintro e w2 ⟨rfl, hb2⟩
          have hB2 := hB.trans (hb2.mono hB.size)
          have k0 := keepF hb2 _ _ _ k0
          have k1 := keepF hb2 _ _ _ k1
          have k2 := keepF hb2 _ _ _ k2
          have k3 := keepF hb2 _ _ _ k3
          clear s0 s1 s2 hb2 hB
          go_wp2_with fail
          refine (hho.out _ hB2).mono ?_
          rintro e w3 ⟨rfl, hb3⟩
          have hB3 := hB2.trans (hb3.mono hB2.size)
          have k0 := keepF hb3 _ _ _ k0
          have k1 := keepF hb3 _ _ _ k1
          have k2 := keepF hb3 _ _ _ k2
          have k3 := keepF hb3 _ _ _ k3
          go_wp2_with fail
          refine (hpg.out _ hB3).mono ?_
          rintro e w4 ⟨rfl, hb4⟩
          have hB4 := hB3.trans (hb4.mono hB3.size)
          go_wp2
          go_ret2
          exact ⟨rfl, hB4.alloc hB4.size _⟩
        · subst h5
          go_enter Try.func32, Try.ntmps32
          go_wp2_with fail
          refine (hop.out _ b1).mono ?_
          rintro e w1 ⟨rfl, hb1⟩
          have hB1 := b1.trans (hb1.mono b1.size)
          have hB := hB1.alloc hB1.size (.cells #[.int .i64 h.p, .int .i64 h.c, .int .i64 h.m, .slice ao m cap] 72)
          have hb2 := hb1.alloc hb1.size (.cells #[.int .i64 h.p, .int .i64 h.c, .int .i64 h.m, .slice ao m cap] 72)
          have r0 := (hb2.block _ (by simp)).trans (heap_alloc_new w (.cells #[.int .i64 h.p, .int .i64 h.c, .int .i64 h.m] 23))
          have r3 := heap_alloc_new w1 (.cells #[.int .i64 h.p, .int .i64 h.c, .int .i64 h.m, .slice ao m cap] 72)
          go_upto_region 2 with fail
          obtain ⟨H, hH, hH'⟩ : ∃ H, Hid (H = w.heap.size) ∧ H = w.heap.size := ⟨_, Lib.hid rfl, rfl⟩
          obtain ⟨K, hK, hK'⟩ : ∃ K, Hid (K = w1.heap.size) ∧ K = w1.heap.size := ⟨_, Lib.hid rfl, rfl⟩
          rw [← hK'] at r3 ⊢
          rw [← hH'] at r0 ⊢
          clear hK' hH' hb1 hb2 hB1
          generalize w1.alloc (.cells #[.int .i64 h.p, .int .i64 h.c, .int .i64 h.m, .slice ao m cap] 72) = W at *
          have s0 : W.cell? ⟨H, 0, .none⟩ = some (.int .i64 h.p) := rowCells r0 0
          have s1 : W.cell? ⟨H, 1, .none⟩ = some (.int .i64 h.c) := rowCells r0 1
          have s2 : W.cell? ⟨H, 2, .none⟩ = some (.int .i64 h.m) := rowCells r0 2
          have k0 : W.cell? ⟨K, 0, .none⟩ = some (.int .i64 h.p) := rowCells r3 0
          have k1 : W.cell? ⟨K, 1, .none⟩ = some (.int .i64 h.c) := rowCells r3 1
          have k2 : W.cell? ⟨K, 2, .none⟩ = some (.int .i64 h.m) := rowCells r3 2
          have k3 : W.cell? ⟨K, 3, .none⟩ = some (.slice ao m cap) := rowCells r3 3
          clear r0 r3
          go_wp2_with fail
          refine (hsp.out _).mono ?_
          rintro e w2 ⟨rfl, hb2⟩
          have hB2 := hB.trans (hb2.mono hB.size)
          have k0 := keepF hb2 _ _ _ k0
          have k1 := keepF hb2 _ _ _ k1
          have k2 := keepF hb2 _ _ _ k2
          have k3 := keepF hb2 _ _ _ k3
          clear s0 s1 s2 hb2 hB
          go_wp2_with fail
          refine (hho.out _ hB2).mono ?_
          rintro e w3 ⟨rfl, hb3⟩
          have hB3 := hB2.trans (hb3.mono hB2.size)
          have k0 := keepF hb3 _ _ _ k0
          have k1 := keepF hb3 _ _ _ k1
          have k2 := keepF hb3 _ _ _ k2
          have k3 := keepF hb3 _ _ _ k3
          go_wp2_with fail
          refine (hpg.out _ hB3).mono ?_
          rintro e w4 ⟨rfl, hb4⟩
          have hB4 := hB3.trans (hb4.mono hB3.size)
          go_wp2
          go_ret2
          exact ⟨rfl, hB4.alloc hB4.size _⟩
      case pos =>
        have hk := hk2 hpp
        rw [hpp, Bool.true_and] at hw0
        rw [Bool.and_eq_true, beq_iff_eq] at hpp
        obtain ⟨h1, h2⟩ := hpp
        subst h1 h2
        have hsz := size_any pa
        have hzb : sizeV pa = 4 ∨ sizeV pa = 8 ∨ sizeV pa = 16 ∨ sizeV pa = 32 := by
          have : pa = 0 ∨ pa = 1 ∨ pa = 2 ∨ pa = 3 := by omega
          rcases this with rfl | rfl | rfl | rfl
          · exact .inl rfl
          · exact .inr (.inl rfl)
          · exact .inr (.inr (.inl rfl))
          · exact .inr (.inr (.inr rfl))
        generalize sizeV pa = z at *
        have hdiv : o.tdiv z = o / z := Int.tdiv_eq_ediv_of_nonneg ho0.1
        have hz0 : (z == 0) = false := by rw [beq_eq_false_iff_ne]; omega
        have hzn : z ≠ 0 := by omega
        have hqi : 0 ≤ o / z ∧ o / z < 16 := by rcases hzb with rfl | rfl | rfl | rfl <;> omega
        have wd' : IntKind.i64.wrap (o.tdiv z) = o / z := by rw [hdiv]; exact IntWalk.i64_in _ ⟨by omega, by omega⟩
        have hsx := fun X hX => hsl (o / z) X hX hqi
        clear hdiv hk2 hsl hk
        generalize o / z = i at *
        generalize h.sk q i = sk at *
        generalize h.sa q i = sa at *
        rw [hw0]
        replace hsx := Lib.hid hsx
        replace hsz := Lib.hid hsz
        clear hw0
        go_enter Try.func32, Try.ntmps32
        go_wp2_with fail
        refine (hop.out _ b1).mono ?_
        rintro e w1 ⟨rfl, hb1⟩
        have hB1 := b1.trans (hb1.mono b1.size)
        have hB := hB1.alloc hB1.size (.cells #[.int .i64 h.p, .int .i64 h.c, .int .i64 h.m, .slice ao m cap] 72)
        have hb2 := hb1.alloc hb1.size (.cells #[.int .i64 h.p, .int .i64 h.c, .int .i64 h.m, .slice ao m cap] 72)
        have r0 := (hb2.block _ (by simp)).trans (heap_alloc_new w (.cells #[.int .i64 h.p, .int .i64 h.c, .int .i64 h.m] 23))
        have r3 := heap_alloc_new w1 (.cells #[.int .i64 h.p, .int .i64 h.c, .int .i64 h.m, .slice ao m cap] 72)
        go_upto_region 2 with fail
        obtain ⟨H, hH, hH'⟩ : ∃ H, Hid (H = w.heap.size) ∧ H = w.heap.size := ⟨_, Lib.hid rfl, rfl⟩
        obtain ⟨K, hK, hK'⟩ : ∃ K, Hid (K = w1.heap.size) ∧ K = w1.heap.size := ⟨_, Lib.hid rfl, rfl⟩
        rw [← hK'] at r3 ⊢
        rw [← hH'] at r0 ⊢
        clear hK' hH' hb1 hb2 hB1
        generalize w1.alloc (.cells #[.int .i64 h.p, .int .i64 h.c, .int .i64 h.m, .slice ao m cap] 72) = W at *
        have s0 : W.cell? ⟨H, 0, .none⟩ = some (.int .i64 h.p) := rowCells r0 0
        have s1 : W.cell? ⟨H, 1, .none⟩ = some (.int .i64 h.c) := rowCells r0 1
        have s2 : W.cell? ⟨H, 2, .none⟩ = some (.int .i64 h.m) := rowCells r0 2
        have k0 : W.cell? ⟨K, 0, .none⟩ = some (.int .i64 h.p) := rowCells r3 0
        have k1 : W.cell? ⟨K, 1, .none⟩ = some (.int .i64 h.c) := rowCells r3 1
        have k2 : W.cell? ⟨K, 2, .none⟩ = some (.int .i64 h.m) := rowCells r3 2
        have k3 : W.cell? ⟨K, 3, .none⟩ = some (.slice ao m cap) := rowCells r3 3
        clear r0 r3
        go_wp2_with fail
        refine (hsp.out _).mono ?_
        rintro e w2 ⟨rfl, hb2⟩
        have hB2 := hB.trans (hb2.mono hB.size)
        have k0 := keepF hb2 _ _ _ k0
        have k1 := keepF hb2 _ _ _ k1
        have k2 := keepF hb2 _ _ _ k2
        have k3 := keepF hb2 _ _ _ k3
        clear s0 s1 s2 hb2 hB
        go_wp2_with fail
        refine (hho.out _ hB2).mono ?_
        rintro e w3 ⟨rfl, hb3⟩
        have hB3 := hB2.trans (hb3.mono hB2.size)
        have k0 := keepF hb3 _ _ _ k0
        have k1 := keepF hb3 _ _ _ k1
        have k2 := keepF hb3 _ _ _ k2
        have k3 := keepF hb3 _ _ _ k3
        go_wp2_with fail
        refine (hpg.out _ hB3).mono ?_
        rintro e w4 ⟨rfl, hb4⟩
        have hb5 := hb4.alloc hb4.size (.cells #[.int .i64 2, .int .i64 pa, .int .i64 pn] 79)
        have g4 := heap_alloc_new w4 (.cells #[.int .i64 2, .int .i64 pa, .int .i64 pn] 79)
        have hB4 := hB3.trans (hb5.mono hB3.size)
        have k0 := keepF hb5 _ _ _ k0
        have k1 := keepF hb5 _ _ _ k1
        have k2 := keepF hb5 _ _ _ k2
        have k3 := keepF hb5 _ _ _ k3
        go_upto_region 10 with fail
        generalize w4.heap.size = G at g4 ⊢
        generalize w4.alloc (.cells #[.int .i64 2, .int .i64 pa, .int .i64 pn] 79) = V at *
        have p1 : V.cell? ⟨G, 1, .none⟩ = some (.int .i64 pa) := rowCells g4 1
        clear g4 hb4 hb5 hb3 hB2 hB3 hho hpg hsp hop
        go_cut [17] (fun s wx => ∃ g : Nat, s = .pointer (some ⟨g, 0, .none⟩) ∧ wx.cell? ⟨g, 0, .none⟩ = some (.int .i64 sk) ∧ wx.cell? ⟨g, 1, .none⟩ = some (.int .i64 sa) ∧ Below V.heap.size V wx)
        case first =>
          have hK : ∀ Y : World, Below V.heap.size V Y → (Y.cell? ⟨K, 0, .none⟩ = some (.int .i64 h.p) ∧ Y.cell? ⟨K, 1, .none⟩ = some (.int .i64 h.c) ∧ Y.cell? ⟨K, 2, .none⟩ = some (.int .i64 h.m) ∧ Y.cell? ⟨K, 3, .none⟩ = some (.slice ao m cap) ∧ Y.cell? ⟨G, 1, .none⟩ = some (.int .i64 pa)) := fun Y hb => ⟨keepF hb _ _ _ k0, keepF hb _ _ _ k1, keepF hb _ _ _ k2, keepF hb _ _ _ k3, keepF hb _ _ _ p1⟩
          replace hK := Lib.hid hK
          go_region_held3 (fun Y => Y.cell? ⟨K, 0, .none⟩ = some (.int .i64 h.p) ∧ Y.cell? ⟨K, 1, .none⟩ = some (.int .i64 h.c) ∧ Y.cell? ⟨K, 2, .none⟩ = some (.int .i64 h.m) ∧ Y.cell? ⟨K, 3, .none⟩ = some (.slice ao m cap) ∧ Y.cell? ⟨G, 1, .none⟩ = some (.int .i64 pa))
            (first | exact hK.out _ (by go_grown))
            (first
              | (go_at_call 63; refine (hsz.out _).mono ?_; rintro e w5 ⟨rfl, rfl⟩)
              | (go_at_call 61; refine (hsx.out _ (hB4.trans ((show Below V.heap.size V _ by go_grown).mono hB4.size))).mono ?_; rintro e w6 ⟨rfl, hb6⟩; have hB6 := belowTrans (w := V) (by go_grown) hb6; have hS6 := hB6.size; try (have hz := PairAt.below (g := V.heap.size) (x := 0) (y := 0) (heap_alloc_new V.drew (.cells #[.int .i64 0, .int .i64 0] 87)) hb6; have z0 := hz.c0; have z1 := hz.c1; have zF := hz.fr)))
          all_goals (go_wp2_with fail; go_meet)
          all_goals refine ⟨_, rfl, ?_, ?_, by go_grown⟩
          all_goals first | go_cell | (simp [go_sem]; done) | (simp; done)
        case rest =>
          obtain ⟨g, rfl, x0, x1, hb6⟩ := hcut
          have hB6 := hB4.trans (hb6.mono hB4.size)
          by_cases hsk : sk = 2
          · subst hsk
            go_wp2
            go_ret2
            exact ⟨rfl, hB6⟩
          · have hsk' : (sk == 2) = false := by rw [beq_eq_false_iff_ne]; exact hsk
            go_wp2
            go_ret2
            exact ⟨rfl, hB6⟩
end Go.Proofs.Ytfknaheijidhcaa

/- The law FillCounts: the walk. -/
import Derived.Test.YtfknaheijidhcaaFilY

import Derived.Test.YtfknaheijidhcaaFilC

import Derived.Test.YtfknaheijidhcaaFilD

import Derived.Test.YtfknaheijidhcaaFilM

namespace Go.Proofs.Ytfknaheijidhcaa

open Go.RowKit Fl

attribute [local go_sem ↓] Go.wp_at_zero Go.wp_at_succ

/-- What lies where: the shape at block H, the words at block G. -/
structure StC (w0 w : World) (H G : Nat) (P : Int) (xs : List Int) : Prop where
  shape : w.heap[H]? = some (.cells #[.int .i64 P, .int .i64 1, .int .i64 0] 23 (0, 0))
  words : WdAt w G xs
  below : Below w0.heap.size w0 w
  apart : w0.heap.size ≤ H ∧ H < G
section

variable {w0 w w' : World} {H G : Nat} {P : Int} {xs : List Int}

theorem StC.lts (h : StC w0 w H G P xs) : H < w.heap.size ∧ G < w.heap.size := ⟨(Array.getElem?_eq_some_iff.1 h.shape).1, h.words.lt⟩
theorem StC.of (h : StC w0 w H G P xs) (hb : Below w.heap.size w w') : StC w0 w' H G P xs :=
  ⟨(hb.block _ h.lts.1).trans h.shape, h.words.of hb, h.below.trans (hb.mono h.below.size), h.apart⟩
theorem StC.setW (h : StC w0 w H G P xs) (j : Nat) (x : Int) : StC w0 (w.setCell ⟨G, j, .none⟩ (.int .u64 x)) H G P (xs.set j x) := by
  obtain ⟨a1, a2⟩ := h.apart
  exact ⟨(heap_setCell_other w ⟨G, j, .none⟩ H _ (by simp; omega)).trans h.shape, h.words.set j x, Below.setCell h.below (by show w0.heap.size ≤ G; omega) _, h.apart⟩
theorem StC.s0 (h : StC w0 w H G P xs) : w.cell? ⟨H, 0, .none⟩ = some (.int .i64 P) := rowCells h.shape 0
theorem StC.s1 (h : StC w0 w H G P xs) : w.cell? ⟨H, 1, .none⟩ = some (.int .i64 1) := rowCells h.shape 1
theorem StC.s2 (h : StC w0 w H G P xs) : w.cell? ⟨H, 2, .none⟩ = some (.int .i64 0) := rowCells h.shape 2
end

set_option maxRecDepth 100000 in
set_option maxHeartbeats 4000000 in
theorem fillCounts_any (c pg : Int) (bs : List Bool) (v : Value) (w : World) (hc : 0 ≤ c ∧ c < 256) (hpg : 0 ≤ pg ∧ pg < 256) (hr : RdBo w v bs) :
    Calls Try.prog 6 #[.int .u8 c, .int .u8 pg, v] w fun e w' => e = .returned (.bool true) ∧ Below w.heap.size w w' := by
  obtain ⟨ao, cap, hv, hcap, hcm, hbc⟩ := hr.cells
  have haw := Lib.hid awake24_any
  obtain ⟨k, hk⟩ : ∃ k, c % 4 = k := ⟨_, rfl⟩
  obtain ⟨P, hPd⟩ : ∃ P : Nat, 1 + pg % 10 = (P : Int) := ⟨(1 + pg % 10).toNat, by omega⟩
  have hk3 : 0 ≤ k ∧ k ≤ 3 := by omega
  have hP : 1 ≤ P ∧ P ≤ 10 := by omega
  have hsb := slots_bd k
  obtain ⟨s, hs⟩ : ∃ s : Nat, slotsV k = (s : Int) := ⟨(slotsV k).toNat, by omega⟩
  have hs16 : s ≤ 16 := by omega
  have hPs : P * s ≤ 160 := Nat.le_trans (Nat.mul_le_mul hP.2 hs16) (by omega)
  obtain ⟨n, hn, hn'⟩ : ∃ n, Hid (n = bs.length) ∧ n = bs.length := ⟨_, Lib.hid rfl, rfl⟩
  rw [← hn'] at hv hcap
  clear hn'
  subst hv
  have hT : ∃ T : Nat, Hid (T = 1 + 17 * P) ∧ totalV (P : Int) 1 0 = (T : Int) ∧ T ≤ 1000 := ⟨1 + 17 * P, Lib.hid rfl, by unfold totalV; rw [if_pos (mayB_iff.2 (by omega))]; omega, by omega⟩
  obtain ⟨T, hT, hTb, hTc⟩ := hT
  have htot := fun X => refTotal_any (P : Int) 1 0 X
  rw [hTb] at htot
  clear hTb
  replace htot := Lib.hid htot
  obtain ⟨Z, hZ⟩ : ∃ Z : List Int, Hid (Z = List.replicate T 0) := ⟨_, Lib.hid rfl⟩
  have hmk : ∀ u : World, (Instr.makeSlice 24 (.int .i64 (T : Int)) (.int .i64 (T : Int))).run Try.prog u = .ok (.slice (some ⟨u.heap.size, 0, .none⟩) T T) (u.alloc (.cells (rowU Z) 41)) := fun u => by
    rw [hZ.out, rowU_blank]; exact make_us T (by omega) u
  have hbcell : Hid (∀ (t : Nat) (X : World), t < n → Below w.heap.size w X → ∃ b off, ao = some ⟨b, off, .none⟩ ∧ X.cell? ⟨b, off + t, .none⟩ = some (.bool (bs.getD t false))) := Lib.hid fun t X ht hX => by
    have htl : t < bs.length := hn.out ▸ ht
    obtain ⟨b, off, h1, h2, h3⟩ := hbc (fun e => by rw [e] at htl; simp at htl)
    refine ⟨b, off, h1, ?_⟩
    rw [keepF hX _ _ _ (h3 t htl), List.getD_eq_getElem?_getD, List.getElem?_eq_getElem htl]; rfl
  have hbg : Hid (∀ t, ¬ t < n → bs.getD t false = false) := Lib.hid fun t ht => by
    have := hn.out
    rw [List.getD_eq_getElem?_getD, List.getElem?_eq_none (by omega)]; rfl
  clear hbc hr
  have hpage : Hid (∀ (a : Nat) (X : World), a < P → Calls Try.prog 19 #[.agg #[.int .i64 (P : Int), .int .i64 1, .int .i64 0], .int .i64 (a : Int)] X fun e w' => e = .returned (.int .i64 ((1 + a : Nat) : Int)) ∧ Below X.heap.size X w') := Lib.hid fun a X ha => by
    have := refPage_any (P : Int) 1 0 (a : Int) X
    rwa [show pageIx (P : Int) 1 0 (a : Int) = ((1 + a : Nat) : Int) by unfold pageIx; rw [if_pos ⟨mayB_iff.2 (by omega), wi_iff.2 (by omega)⟩]; omega] at this
  have hpp := Lib.hid (fun X => refPutPage_any 2 k X (by omega) (by omega))
  have hps1 := Lib.hid (fun X => refPutSlot_any 1 k X (by omega) (by omega))
  have hps3 := Lib.hid (fun X => refPutSlot_any 3 k X (by omega) (by omega))
  have hsl := fun X => refSlots_any k X hk3
  rw [hs] at hsl
  replace hsl := Lib.hid hsl
  have hct : Hid (∀ t, ctB bs (t + 1) = ctB bs t + if bs.getD t false = true then 1 else 0) := Lib.hid fun _ => rfl
  have hctl := Lib.hid (ctB_le bs)
  have hk0 : IntKind.i64.wrap (c % 4) = c % 4 := IntWalk.i64_in _ ⟨by omega, by omega⟩
  have hw1 : IntKind.i64.wrap (1 + pg % 10) = 1 + pg % 10 := IntWalk.i64_in _ ⟨by omega, by omega⟩
  go_enter Try.func6, Try.ntmps6
  go_wp2_with fail
  refine (haw.out _).mono ?_
  rintro e w1 ⟨rfl, hb1⟩
  go_upto_region 5 with fail
  try rw [hk]
  try rw [hPd]
  clear hk0 hw1
  have t1 := heap_alloc_new w1 (.cells #[.int .i64 (P : Int), .int .i64 1, .int .i64 0] 23)
  have t2 := hb1.alloc hb1.size (.cells #[.int .i64 (P : Int), .int .i64 1, .int .i64 0] 23)
  obtain ⟨H, hH, hH'⟩ : ∃ H, Hid (H = w1.heap.size) ∧ H = w1.heap.size := ⟨_, Lib.hid rfl, rfl⟩
  have hwH : w.heap.size ≤ H := by have := hb1.size; omega
  rw [← hH'] at t1 ⊢
  generalize w1.alloc (.cells #[.int .i64 (P : Int), .int .i64 1, .int .i64 0] 23) = W at *
  clear hH' hb1
  have lH : H < W.heap.size := (Array.getElem?_eq_some_iff.1 t1).1
  have c0 : W.cell? ⟨H, 0, .none⟩ = some (.int .i64 (P : Int)) := rowCells t1 0
  have c1 : W.cell? ⟨H, 1, .none⟩ = some (.int .i64 1) := rowCells t1 1
  have c2 : W.cell? ⟨H, 2, .none⟩ = some (.int .i64 0) := rowCells t1 2
  go_wp2_with fail
  refine (htot.out _).mono ?_
  rintro e w3 ⟨rfl, hb3⟩
  go_upto_region 6 with fail
  have hst : StC w (w3.alloc (.cells (rowU Z) 41)) H w3.heap.size (P : Int) Z := by
    have hb4 := hb3.alloc hb3.size (.cells (rowU Z) 41)
    exact ⟨(hb4.block _ lH).trans t1, heap_alloc_new _ _, t2.trans (hb4.mono t2.size), ⟨hwH, by have := hb3.size; omega⟩⟩
  obtain ⟨G, hG, hG'⟩ : ∃ G, Hid (G = w3.heap.size) ∧ G = w3.heap.size := ⟨_, Lib.hid rfl, rfl⟩
  rw [← hG'] at hst ⊢
  generalize w3.alloc (.cells (rowU Z) 41) = U at *
  have hinv : InvC k s P bs 0 0 Z := by rw [hZ.out, hT.out]; exact InvC.start k s P bs
  clear c0 c1 c2 t1 t2 lH hb3 hG' hmk htot hZ hk hPd
  go_wp2_with fail
  go_loopw [10, 11, 12] (fun vn va vp wr => ∃ (a t : Nat) (xs : List Int), t = a * s ∧ a ≤ P ∧ vp = .int .i64 a ∧ va = .int .i64 t ∧ vn = .int .i64 (ctB bs t) ∧ StC w wr H G P xs ∧ InvC k s P bs a t xs) (fun _ _ vp _ => P - (intOf vp).toNat)
  case atStart => exact ⟨0, 0, Z, by simp, Nat.zero_le _, rfl, rfl, rfl, hst, hinv⟩
  case round =>
    obtain ⟨a, t, xs, ht, ha, rfl, rfl, rfl, hS, hI⟩ := hrel
    obtain ⟨Y, rfl⟩ : ∃ V : World, V = wr := ⟨_, rfl⟩
    have s0 := hS.s0
    have s1 := hS.s1
    have s2 := hS.s2
    clear hst hinv
    by_cases hlt : a < P
    · have hlt' : (a : Int) < (P : Int) := by omega
      have hpa := Lib.hid (hpage.out a Y hlt)
      have hxl : xs.length = T := by have := hI.len; have := hT.out; omega
      have h1aT : 1 + a < T := by have := hT.out; omega
      have h1aT' : (1 : Int) + (a : Int) < (T : Int) := by omega
      have h1a0 : (0 : Int) ≤ 1 + (a : Int) := by omega
      have h1an : ((1 : Int) + (a : Int)).toNat = 1 + a := by omega
      have wa1 : IntKind.i64.wrap ((a : Int) + 1) = (a : Int) + 1 := IntWalk.i64_in _ ⟨by omega, by omega⟩
      have hI2 : InvC k s P bs (a + 1) t (xs.set (1 + a) (2 + 16 * k)) := by rw [ht] at hI ⊢; exact hI.setPage hlt
      replace ht := Lib.hid ht
      go_wp2_with fail
      refine hpa.out.mono ?_
      rintro e w4 ⟨rfl, hb4⟩
      have hS := hS.of hb4
      go_wp2_with fail
      refine (hpp.out _).mono ?_
      rintro e w5 ⟨rfl, hb5⟩
      have hS := hS.of hb5
      have g0 := hS.words.cell (1 + a) (by omega)
      have g1 := hS.words.fr (1 + a)
      have hS2 := hS.setW (1 + a) (2 + 16 * k)
      clear s0 s1 s2 hpa hb4 hb5
      go_wp2_with fail
      go_loopw [10, 11, 13] (fun vn va vq wr => ∃ (q u : Nat) (ys : List Int), u = a * s + q ∧ q ≤ s ∧ vq = .int .i64 q ∧ va = .int .i64 u ∧ vn = .int .i64 (ctB bs u) ∧ StC w wr H G P ys ∧ InvC k s P bs (a + 1) u ys) (fun _ _ vq _ => s - (intOf vq).toNat)
      case atStart => exact ⟨0, t, _, ht.out, Nat.zero_le _, rfl, rfl, rfl, hS2, hI2⟩
      case round =>
        obtain ⟨q, u, ys, hu, hq, rfl, rfl, rfl, hS, hI⟩ := hrel
        obtain ⟨X, rfl⟩ : ∃ V : World, V = wr := ⟨_, rfl⟩
        clear hS2 hI2 g0 g1
        by_cases hqs : q < s
        · have hqs' : (q : Int) < (s : Int) := by omega
          have hyl : ys.length = T := by have := hI.len; have := hT.out; omega
          obtain ⟨J, hJ⟩ : ∃ J : Nat, Hid (J = 1 + P + 16 * a + q) := ⟨_, Lib.hid rfl⟩
          have hJT : J < T := by have := hJ.out; have := hT.out; omega
          have hJT' : (J : Int) < (T : Int) := by omega
          have hJ0 : (0 : Int) ≤ (J : Int) := by omega
          have huP : u < 160 := by
            have h1 := Nat.mul_le_mul_right s (show a + 1 ≤ P by omega)
            rw [Nat.add_mul] at h1
            omega
          have hslot : Hid (∀ X : World, Calls Try.prog 24 #[.agg #[.int .i64 (P : Int), .int .i64 1, .int .i64 0], .int .i64 (a : Int), .int .i64 (q : Int)] X fun e w' => e = .returned (.int .i64 (J : Int)) ∧ Below X.heap.size X w') := Lib.hid fun X => by
            have := refSlot_in (P : Int) 1 0 a q X (mayB_iff.2 (by omega)) (by omega) (by omega)
            rwa [show (1 : Int) + P + 16 * a + q = (J : Int) by have := hJ.out; omega] at this
          have wq1 : IntKind.i64.wrap ((q : Int) + 1) = (q : Int) + 1 := IntWalk.i64_in _ ⟨by omega, by omega⟩
          have wu1 : IntKind.i64.wrap ((u : Int) + 1) = (u : Int) + 1 := IntWalk.i64_in _ ⟨by omega, by omega⟩
          have hcl := hctl.out u
          have wc1 : IntKind.i64.wrap ((ctB bs u : Int) + 1) = (ctB bs u : Int) + 1 := IntWalk.i64_in _ ⟨by omega, by omega⟩
          have hcu := hct.out u
          have hI3 : InvC k s P bs (a + 1) (u + 1) (ys.set J (swC k (bs.getD u false))) := by
            have := hI
            rw [hu] at this
            have := this.setSlot hlt hqs hs16
            rw [← hJ.out, ← hu] at this
            rw [show u + 1 = a * s + (q + 1) by omega]; exact this
          have hfin : Hid (∀ (Y : World) (zs : List Int) (m : Nat), StC w Y H G P zs → InvC k s P bs (a + 1) (u + 1) zs → m = ctB bs (u + 1) → ∃ (q' u' : Nat) (ys : List Int), u' = a * s + q' ∧ q' ≤ s ∧ Value.int .i64 ((q : Int) + 1) = .int .i64 q' ∧ Value.int .i64 ((u : Int) + 1) = .int .i64 u' ∧ Value.int .i64 (m : Int) = .int .i64 (ctB bs u') ∧ StC w Y H G P ys ∧ InvC k s P bs (a + 1) u' ys) := Lib.hid fun Y zs m h1 h2 h3 => ⟨q + 1, u + 1, zs, by omega, by omega, by go_num, by go_num, by rw [h3], h1, h2⟩
          replace hu := Lib.hid hu
          by_cases hun : u < n
          · have hun' : (u : Int) < (n : Int) := by omega
            have hun2 : decide ((u : Int) < (n : Int)) = true := decide_eq_true hun'
            have hun3 : decide (u < n) = true := decide_eq_true hun
            have hu0 : (0 : Int) ≤ (u : Int) := by omega
            obtain ⟨b, off, hao, hbc⟩ := hbcell.out u X hun hS.below
            have hbc := keepF ((Below.refl X.heap.size X).alloc (Nat.le_refl _) (.cells #[.int .i64 1, .int .i64 k] 52)) _ _ _ hbc
            subst hao
            rcases Bool.eq_false_or_eq_true (bs.getD u false) with hb | hb
            · rw [hb] at hbc hI3 hcu
              replace hI3 : InvC k s P bs (a + 1) (u + 1) (ys.set J (3 + 16 * k)) := hI3
              rw [if_pos rfl] at hcu
              replace hcu := Lib.hid hcu
              clear hb
              have hal := (Below.refl X.heap.size X).alloc (Nat.le_refl _) (.cells #[.int .i64 3, .int .i64 k] 52)
              have hxb := heap_alloc_new X (.cells #[.int .i64 3, .int .i64 k] 52)
              have hSa := hS.of hal
              go_upto_region 19 with (go_at_call 22; refine (hsl.out _).mono ?_; rintro e w6 ⟨rfl, hw⟩; obtain rfl := hw.symm)
              generalize X.alloc (.cells #[.int .i64 3, .int .i64 k] 52) = Y3 at *
              have lX : X.heap.size < Y3.heap.size := (Array.getElem?_eq_some_iff.1 hxb).1
              obtain ⟨lH, lG⟩ := hSa.lts
              have s0' := hSa.s0
              have s1' := hSa.s1
              have s2' := hSa.s2
              have x0 : Y3.cell? ⟨X.heap.size, 0, .none⟩ = some (.int .i64 3) := rowCells hxb 0
              have x1 : Y3.cell? ⟨X.heap.size, 1, .none⟩ = some (.int .i64 k) := rowCells hxb 1
              clear hS hal hxb
              generalize X.heap.size = XB at *
              refine wp_region_ext_tail 7 (by kernel_rfl) (by kernel_rfl) ?_
              dsimp only [List.take, List.drop]
              repeat (go_big_quiet_step ((first
                | (go_at_call 24; exact ext_of (hslot.out _))
                | (go_at_call 23; exact ext_of (hps3.out _)))))
              refine wpQuiet_nil ?_
              rintro _ ⟨e, rfl⟩
              have hse := hSa.of e.below
              have g0 := hse.words.cell J (by omega)
              have g1 := hse.words.fr J
              have hs9 := hse.setW J (3 + 16 * k)
              clear s0' s1' s2' x0 x1 hSa
              generalize e.w = Y2 at *
              change wpList _ _ _ _ _ Y2
              go_wp2
              exact ⟨hfin.out _ _ _ hs9 hI3 (by rw [hcu.out]), by simp [intOf]; omega⟩
            · rw [hb] at hbc hI3 hcu
              replace hI3 : InvC k s P bs (a + 1) (u + 1) (ys.set J (1 + 16 * k)) := hI3
              rw [if_neg Bool.false_ne_true, Nat.add_zero] at hcu
              replace hcu := Lib.hid hcu
              clear hb
              have hal := (Below.refl X.heap.size X).alloc (Nat.le_refl _) (.cells #[.int .i64 1, .int .i64 k] 52)
              have hxb := heap_alloc_new X (.cells #[.int .i64 1, .int .i64 k] 52)
              have hSa := hS.of hal
              go_upto_region 19 with (go_at_call 22; refine (hsl.out _).mono ?_; rintro e w6 ⟨rfl, hw⟩; obtain rfl := hw.symm)
              generalize X.alloc (.cells #[.int .i64 1, .int .i64 k] 52) = Y3 at *
              have lX : X.heap.size < Y3.heap.size := (Array.getElem?_eq_some_iff.1 hxb).1
              obtain ⟨lH, lG⟩ := hSa.lts
              have s0' := hSa.s0
              have s1' := hSa.s1
              have s2' := hSa.s2
              have x0 : Y3.cell? ⟨X.heap.size, 0, .none⟩ = some (.int .i64 1) := rowCells hxb 0
              have x1 : Y3.cell? ⟨X.heap.size, 1, .none⟩ = some (.int .i64 k) := rowCells hxb 1
              clear hS hal hxb
              generalize X.heap.size = XB at *
              refine wp_region_ext_tail 7 (by kernel_rfl) (by kernel_rfl) ?_
              dsimp only [List.take, List.drop]
              repeat (go_big_quiet_step ((first
                | (go_at_call 24; exact ext_of (hslot.out _))
                | (go_at_call 23; exact ext_of (hps1.out _)))))
              refine wpQuiet_nil ?_
              rintro _ ⟨e, rfl⟩
              have hse := hSa.of e.below
              have g0 := hse.words.cell J (by omega)
              have g1 := hse.words.fr J
              have hs9 := hse.setW J (1 + 16 * k)
              clear s0' s1' s2' x0 x1 hSa
              generalize e.w = Y2 at *
              change wpList _ _ _ _ _ Y2
              go_wp2
              exact ⟨hfin.out _ _ _ hs9 hI3 (by have := hcu.out; omega), by simp [intOf]; omega⟩
          · have hun' : ¬ (u : Int) < (n : Int) := by omega
            have hun2 : decide ((u : Int) < (n : Int)) = false := decide_eq_false hun'
            have hun3 : decide (u < n) = false := decide_eq_false hun
            have hb := hbg.out u hun
            rw [hb] at hI3 hcu
            replace hI3 : InvC k s P bs (a + 1) (u + 1) (ys.set J (1 + 16 * k)) := hI3
            rw [if_neg Bool.false_ne_true, Nat.add_zero] at hcu
            replace hcu := Lib.hid hcu
            clear hb
            have hal := (Below.refl X.heap.size X).alloc (Nat.le_refl _) (.cells #[.int .i64 1, .int .i64 k] 52)
            have hxb := heap_alloc_new X (.cells #[.int .i64 1, .int .i64 k] 52)
            have hSa := hS.of hal
            go_upto_region 19 with (go_at_call 22; refine (hsl.out _).mono ?_; rintro e w6 ⟨rfl, hw⟩; obtain rfl := hw.symm)
            generalize X.alloc (.cells #[.int .i64 1, .int .i64 k] 52) = Y3 at *
            have lX : X.heap.size < Y3.heap.size := (Array.getElem?_eq_some_iff.1 hxb).1
            obtain ⟨lH, lG⟩ := hSa.lts
            have s0' := hSa.s0
            have s1' := hSa.s1
            have s2' := hSa.s2
            have x0 : Y3.cell? ⟨X.heap.size, 0, .none⟩ = some (.int .i64 1) := rowCells hxb 0
            have x1 : Y3.cell? ⟨X.heap.size, 1, .none⟩ = some (.int .i64 k) := rowCells hxb 1
            clear hS hal hxb
            generalize X.heap.size = XB at *
            refine wp_region_ext_tail 7 (by kernel_rfl) (by kernel_rfl) ?_
            dsimp only [List.take, List.drop]
            repeat (go_big_quiet_step ((first
              | (go_at_call 24; exact ext_of (hslot.out _))
              | (go_at_call 23; exact ext_of (hps1.out _)))))
            refine wpQuiet_nil ?_
            rintro _ ⟨e, rfl⟩
            have hse := hSa.of e.below
            have g0 := hse.words.cell J (by omega)
            have g1 := hse.words.fr J
            have hs9 := hse.setW J (1 + 16 * k)
            clear s0' s1' s2' x0 x1 hSa
            generalize e.w = Y2 at *
            change wpList _ _ _ _ _ Y2
            go_wp2
            exact ⟨hfin.out _ _ _ hs9 hI3 (by have := hcu.out; omega), by simp [intOf]; omega⟩
        · have hqe : q = s := by omega
          subst hqe
          have hq2 : ¬ (q : Int) < (q : Int) := by omega
          have hu2 : u = (a + 1) * q := by rw [hu, Nat.add_mul, Nat.one_mul]
          clear hu
          replace hu2 := Lib.hid hu2
          go_wp2_with (go_at_call 22; refine (hsl.out _).mono ?_; rintro e w6 ⟨rfl, hw⟩; obtain rfl := hw.symm)
          exact ⟨⟨a + 1, u, ys, hu2.out, by omega, by go_num, rfl, rfl, hS, hI⟩, by simp [intOf]; omega⟩
    · have hae : a = P := by omega
      subst hae
      have hae : ¬ (a : Int) < (a : Int) := by omega
      have hI' : InvC k s a bs a (a * s) xs := ht ▸ hI
      have hxl : xs.length = T := by have := hI.len; have := hT.out; omega
      have hfit : (hpC a xs).fit := hpC_fit hI' hk3
      have hrd : ∀ X, StC w X H G (a : Int) xs → RdZ .u64 X (.slice (some ⟨G, 0, .none⟩) T T) xs := fun X h => by
        have := h.words.rd (by omega)
        rwa [hxl] at this
      have hfk := hpC_fill hI' hP hk3 hs
      have hfn := hpC_fill_none hI' hP hk3
      have hfh := hpC_heap hI' hP hk3 hs
      have hfb := hpC_best hI' hP hk3 hs
      have hml := ctB_le bs t
      have hnum := chk_any (n := ctB bs t) hk3 hs hP (by omega)
      rw [← ht] at hfk hfh hnum
      have ht0 : 0 < t := by
        have : 0 < s := by
          have h4 : k = 0 ∨ k = 1 ∨ k = 2 ∨ k = 3 := by omega
          rcases h4 with rfl | rfl | rfl | rfl <;> (have : slotsV 0 = 16 ∧ slotsV 1 = 8 ∧ slotsV 2 = 4 ∧ slotsV 3 = 2 := by decide) <;> omega
        rw [ht]; exact Nat.mul_pos (by omega) this
      have ht160 : t ≤ 160 := by omega
      rw [hnum.1] at hfh
      have hin := Fl.ratio_in (ctB bs t) t (by omega) (by omega)
      have hquo := fun w : World => run_float_arith (P := Try.prog) w .quo 37 .f64 _ _ _ (ratio_some (ctB bs t) t (by omega) (by omega) (by omega))
      have hxl2 := ratio_lt (ctB bs t) t (by omega) (by omega)
      obtain ⟨kn, rfl⟩ : ∃ kn : Nat, k = (kn : Int) := ⟨k.toNat, by omega⟩
      have hall : Hid (∀ X, StC w X H G (a : Int) xs → Calls Try.prog 15 #[.agg #[.int .i64 (a : Int), .int .i64 1, .int .i64 0], .slice (some ⟨G, 0, .none⟩) T T] X fun e w' => ∃ u, e = .returned u ∧ Below X.heap.size X w' ∧ RdS w' 1 u 4 (flF (fun i => (hpC a xs).fill i) 4)) := Lib.hid fun X h => fall_any (hpC a xs) _ X (hrd X h) hfit
      have hful : Hid (∀ X, StC w X H G (a : Int) xs → Calls Try.prog 16 #[.agg #[.int .i64 (a : Int), .int .i64 1, .int .i64 0], .slice (some ⟨G, 0, .none⟩) T T] X fun e w' => e = .returned (.tuple #[.int .i64 (kn : Int), .bool true]) ∧ Below X.heap.size X w') := Lib.hid fun X h => by
        have := ffullest_any (hpC a xs) _ X (hrd X h) hfit
        rwa [hfb.1, hfb.2] at this
      have hcls : Hid (∀ X, StC w X H G (a : Int) xs → Calls Try.prog 29 #[.agg #[.int .i64 (a : Int), .int .i64 1, .int .i64 0], .slice (some ⟨G, 0, .none⟩) T T, .int .i64 (kn : Int)] X fun e w' => e = .returned (F64 (ratioF (ctB bs t) t)) ∧ Below X.heap.size X w') := Lib.hid fun X h => by
        have := fclass_any (hpC a xs) _ kn X (hrd X h) hfit
        rwa [hfk] at this
      have hhp : Hid (∀ X, StC w X H G (a : Int) xs → Calls Try.prog 17 #[.agg #[.int .i64 (a : Int), .int .i64 1, .int .i64 0], .slice (some ⟨G, 0, .none⟩) T T] X fun e w' => e = .returned (F64 (ratioF (ctB bs t) t)) ∧ Below X.heap.size X w') := Lib.hid fun X h => by
        have := fheap_any (hpC a xs) _ X (hrd X h) hfit
        rwa [hfh] at this
      obtain ⟨F, hF⟩ : ∃ F : Nat → Nat, F = fun i : Nat => (hpC a xs).fill i := ⟨_, rfl⟩
      rw [← hF] at hall
      have hFk : F kn = ratioF (ctB bs t) t := by rw [hF]; exact hfk
      have hFn : ∀ i : Nat, i ≠ kn → F i = 9221120237041090561 := fun i hi => by rw [hF]; exact hfn i (by omega)
      have hkn4 : kn < 4 := by omega
      have hmean : Hid (∀ v X, RdS X 1 v 4 (flF F 4) → Calls Try.prog 30 #[v] X fun e w' => e = .returned (F64 (ratioF (ctB bs t) t)) ∧ Below X.heap.size X w') := Lib.hid fun v X h => by
        have := mean1_any F kn v X hkn4 h (by rw [hFk]; exact hin.1) (fun i _ hi => by rw [hFn i hi]; exact nan_none) (by rw [hFk]; exact hnum.2.1) (by rw [hFk]; exact hnum.2.2)
        rwa [hFk] at this
      generalize ratioF (ctB bs t) t = x at *
      have hsx : Hid (∀ w, Calls Try.prog 27 #[F64 x, F64 x] w fun e w' => e = .returned (.bool true) ∧ w' = w) := Lib.hid fun w => by
        have := same24_any x x hxl2 hxl2 w
        rwa [decide_eq_true rfl] at this
      have hsn : Hid (∀ w, Calls Try.prog 27 #[F64 9221120237041090561, F64 9221120237041090561] w fun e w' => e = .returned (.bool true) ∧ w' = w) := Lib.hid fun w => by
        have := same24_any 9221120237041090561 9221120237041090561 (by decide) (by decide) w
        rwa [decide_eq_true rfl] at this
      have hnan := Lib.hid (fun X => mathNaN_any X)
      replace hFn := Lib.hid hFn
      replace hFk := Lib.hid hFk
      clear hF hfk hfn hfh hfb hnum hin hxl2 hrd hfit hI hI' hpage hpp hps1 hps3 hsl hct hbcell hbg
      replace ht := Lib.hid ht
      generalize ctB bs t = m at *
      go_wp2_with fail
      refine (hall.out _ hS).mono ?_
      rintro e w4 ⟨u, rfl, hb4, hru⟩
      have hru2 : Hid (∀ X, Below w4.heap.size w4 X → RdS X 1 u 4 (flF F 4)) := Lib.hid fun X hX => hru.below hX
      obtain ⟨uo, ucap, rfl, hucap, hucm, _, hurow⟩ := hru
      obtain ⟨g, off, rfl, hg, hcell⟩ := hurow (by omega)
      replace hcell : Hid (∀ (Z : World) i, Below w4.heap.size w4 Z → i < 4 → Z.cell? ⟨g, off + i, .none⟩ = some (F64 (F i))) := Lib.hid fun Z i hZ hi => keepF hZ _ _ _ ((hcell i (by omega)).trans (flF_get F 4 i hi))
      clear hurow
      have hS4 := hS.of hb4
      clear hS s0 s1 s2 hb4
      obtain ⟨V, rfl⟩ : ∃ V : World, V = w4 := ⟨_, rfl⟩
      go_wp2_with fail
      go_loopw [16] (fun vi wr => ∃ i : Nat, i ≤ 4 ∧ vi = .int .i64 i ∧ Below V.heap.size V wr) (fun vi _ => 4 - (intOf vi).toNat)
      case atStart => exact ⟨0, by omega, rfl, Below.refl _ _⟩
      case round =>
        obtain ⟨i, hi, rfl, hbr⟩ := hrel
        obtain ⟨Y3, rfl⟩ : ∃ V : World, V = wr := ⟨_, rfl⟩
        by_cases hlt4 : (i : Int) < 4
        · have wi1 : IntKind.i64.wrap ((i : Int) + 1) = (i : Int) + 1 := IntWalk.i64_in _ ⟨by omega, by omega⟩
          have hi0 : (0 : Int) ≤ (i : Int) := by omega
          by_cases hik : i = kn
          · subst hik
            have hbe : ((i : Int) != (i : Int)) = false := by simp
            go_upto_region 26 with fail
            go_quiet (fail)
            replace hbr := below_drewN hbr nq
            generalize Y3.drewN nq = Y4 at *
            go_wp2
            exact ⟨⟨i + 1, by omega, by go_num, hbr⟩, by simp [intOf]; omega⟩
          · have hbe : ((i : Int) != (kn : Int)) = true := by simp; omega
            have hbe2 : (i != kn) = true := by simpa using hik
            have hci := hcell.out Y3 i hbr (by omega)
            rw [hFn.out i hik] at hci
            go_upto_region 26 with fail
            go_quiet ((first
              | (go_at_call 28; (with_reducible exact Calls.quiet_of_same (hnan.out _)))
              | (go_at_call 27; (with_reducible exact Calls.quiet_of_same (hsn.out _)))))
            replace hbr := below_drewN hbr nq
            generalize Y3.drewN nq = Y4 at *
            go_wp2
            exact ⟨⟨i + 1, by omega, by go_num, hbr⟩, by simp [intOf]; omega⟩
        · have hie : i = 4 := by omega
          subst hie
          have hS5 := hS4.of hbr
          have s0 := hS5.s0
          have s1 := hS5.s1
          have s2 := hS5.s2
          go_wp2_with fail
          refine (hful.out _ hS5).mono ?_
          rintro e w6 ⟨rfl, hb6⟩
          have hbr6 := hbr.trans (hb6.mono hbr.size)
          have hS6 := hS5.of hb6
          have hck := hcell.out w6 kn hbr6 hkn4
          rw [hFk.out] at hck
          have s0 := hS6.s0
          have s1 := hS6.s1
          have s2 := hS6.s2
          have hkn0 : (0 : Int) ≤ (kn : Int) := by omega
          have hkn5 : (kn : Int) < 4 := by omega
          go_wp2_with (go_at_call 27; refine (hsx.out _).mono ?_; rintro e w7 ⟨rfl, hw⟩; obtain rfl := hw.symm)
          refine (hcls.out _ hS6).mono ?_
          rintro e w7 ⟨rfl, hb7⟩
          have hbr7 := hbr6.trans (hb7.mono hbr6.size)
          have hS7 := hS6.of hb7
          have s0 := hS7.s0
          have s1 := hS7.s1
          have s2 := hS7.s2
          go_wp2_with (go_at_call 27; refine (hsx.out _).mono ?_; rintro e w7 ⟨rfl, hw⟩; obtain rfl := hw.symm)
          refine (hhp.out _ hS7).mono ?_
          rintro e w8 ⟨rfl, hb8⟩
          have hbr8 := hbr7.trans (hb8.mono hbr7.size)
          have hS8 := hS7.of hb8
          go_wp2_with (go_at_call 27; refine (hsx.out _).mono ?_; rintro e w7 ⟨rfl, hw⟩; obtain rfl := hw.symm)
          refine (hmean.out _ _ (hru2.out _ hbr8)).mono ?_
          rintro e w9 ⟨rfl, hb9⟩
          have hS9 := hS8.of hb9
          go_wp2_with (go_at_call 27; refine (hsx.out _).mono ?_; rintro e w7 ⟨rfl, hw⟩; obtain rfl := hw.symm)
          go_ret
          exact ⟨rfl, hS9.below⟩
end Go.Proofs.Ytfknaheijidhcaa

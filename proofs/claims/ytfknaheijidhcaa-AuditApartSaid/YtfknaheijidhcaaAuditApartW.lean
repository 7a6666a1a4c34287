/- The law AuditApart: the walk. -/
import Derived.Test.YtfknaheijidhcaaAudT

import Derived.Test.YtfknaheijidhcaaAudQ

import Derived.Test.YtfknaheijidhcaaMdlZ

import Derived.Deep.CutBlock

namespace Go.Proofs.Ytfknaheijidhcaa

open Go.RowKit

attribute [local go_sem ↓] Go.wp_at_zero Go.wp_at_succ

theorem run_field_cnt1 (a b c d : Int) (w : World) : (Instr.field 44 (.agg #[.int .i64 a, .int .i64 b, .int .i64 c, .int .i64 d]) 1).run Try.prog w = .ok (.int .i64 b) w := by kernel_rfl
attribute [local go_sem ↓] run_field_cnt1

theorem Hp.bl_len (h : Hp) : h.bl.length ≤ 1024 := by
  unfold Hp.bl
  split
  · rename_i ho
    have hm : mayB h.p h.c h.m = true := by unfold Hp.ok at ho; rw [Bool.and_eq_true] at ho; exact ho.1
    have hb := mayB_iff.1 hm
    have := h.blT_len h.p.toNat
    omega
  · simp
/-- Blocks that stand apart are taken one behind the other. -/
theorem okK.takes {W : Int} {bs : List Bk} (h : okK W 0 bs) (i : Nat) (hi : i < bs.length) : takeOk W (bs.take i) bs[i].a bs[i].n = true ∧ takeB W (bs.take i) bs[i].a bs[i].n = bs.take (i + 1) := by
  have hm := h.mem _ (List.getElem_mem hi)
  have hlen : (bs.take i).length = i := by rw [List.length_take]; omega
  have hlt : ∀ k (hk : k < (bs.take i).length), (bs.take i)[k].a + (bs.take i)[k].n ≤ bs[i].a ∧ 1 ≤ (bs.take i)[k].n := fun k hk => by
    rw [List.getElem_take]
    have hki : k < i := by rw [hlen] at hk; exact hk
    exact ⟨h.lt k i hki hi, (h.mem _ (List.getElem_mem (show k < bs.length by omega))).2.1⟩
  have hok : takeOk W (bs.take i) bs[i].a bs[i].n = true := by
    unfold takeOk fitsK
    rw [Bool.and_eq_true, decide_eq_true_eq, Bool.not_eq_true', List.any_eq_false]
    refine ⟨by omega, fun c hc => ?_⟩
    obtain ⟨k, hk, rfl⟩ := List.getElem_of_mem hc
    have := hlt k hk
    unfold meets
    rw [decide_eq_true_eq]
    omega
  refine ⟨hok, ?_⟩
  rw [takeB_eq hok]
  have hpos : posB bs[i].a (bs.take i) = i := posB_unique _ _ i (by omega) (fun k hk hkl => by have := hlt k hkl; omega) (fun hk => by omega)
  unfold putB
  rw [hpos, List.take_of_length_le (by omega), List.drop_of_length_le (by omega), List.take_succ_eq_append_getElem hi]

set_option maxRecDepth 100000 in
set_option maxHeartbeats 1000000 in
theorem auditApart_any (h : Hp) (v : Value) (w : World) (hr : RdZ .u64 w v h.xs) (hf : h.fit) :
    Calls Try.prog 8 #[shV h, v] w fun e w' => e = .returned (.bool true) ∧ Below w.heap.size w w' := by
  have hwords := fun X (hX : Below w.heap.size w X) => awords_any h v X (hr.below (w' := X) hX) hf
  have hblocks := fun X (hX : Below w.heap.size w X) => ablocks_any h v X (hr.below (w' := X) hX) hf
  have hholder := fun a X (hX : Below w.heap.size w X) => holderW_any h v a X (hr.below (w' := X) hX) hf
  have hsound := fun X (hX : Below w.heap.size w X) => soundAll_any h v X (hr.below (w' := X) hX) hf
  obtain ⟨ao, cap, hv, hcap, hcm, _⟩ := hr.cells
  obtain ⟨N, hN⟩ : ∃ N, N = h.xs.length := ⟨_, rfl⟩
  rw [← hN] at hv hcap
  subst hv
  have t1 := heap_alloc_new w (.cells #[.int .i64 h.p, .int .i64 h.c, .int .i64 h.m] 23)
  have t2 := (Below.refl w.heap.size w).alloc (Nat.le_refl _) (.cells #[.int .i64 h.p, .int .i64 h.c, .int .i64 h.m] 23)
  replace hN := Lib.hid hN
  replace hwords := Lib.hid hwords
  replace hblocks := Lib.hid hblocks
  replace hholder := Lib.hid hholder
  replace hsound := Lib.hid hsound
  by_cases hlong : 3000 < N
  · have h1 : (3000 : Int) < (N : Int) := by omega
    clear hwords hblocks hholder hsound
    go_enter Try.func8, Try.ntmps8
    go_wp2_with (go_at_call 9; refine (awake_any _).mono ?_; rintro e w1 ⟨rfl, hb1⟩)
    go_ret
    exact ⟨rfl, t2.trans (hb1.mono t2.size)⟩
  · have hN3 : N ≤ 3000 := by omega
    have hlen : ¬ (3000 : Int) < (N : Int) := by omega
    clear hlong
    go_enter Try.func8, Try.ntmps8
    go_wp2_with fail
    refine (awake_any _).mono ?_
    rintro e w1 ⟨rfl, hb1⟩
    have hB := t2.trans (hb1.mono t2.size)
    have s0 := (hb1.block _ (by simp)).trans t1
    obtain ⟨H, hH, hH'⟩ : ∃ H, Hid (H = w.heap.size) ∧ H = w.heap.size := ⟨_, Lib.hid rfl, rfl⟩
    rw [← hH'] at s0 ⊢
    have lS : H < w1.heap.size := (Array.getElem?_eq_some_iff.1 s0).1
    have c0 : w1.cell? ⟨H, 0, .none⟩ = some (.int .i64 h.p) := rowCells s0 0
    have c1 : w1.cell? ⟨H, 1, .none⟩ = some (.int .i64 h.c) := rowCells s0 1
    have c2 : w1.cell? ⟨H, 2, .none⟩ = some (.int .i64 h.m) := rowCells s0 2
    clear hH' s0 t1 t2 hb1
    go_wp2_with fail
    refine (hsound.out _ hB).mono ?_
    rintro e w2 ⟨⟨r, rfl, hr1, _⟩, hb2⟩
    have c0 := keepF hb2 _ _ _ c0
    have c1 := keepF hb2 _ _ _ c1
    have c2 := keepF hb2 _ _ _ c2
    have lS : H < w2.heap.size := by have := hb2.size; omega
    have hB := hB.trans (hb2.mono hB.size)
    rcases Bool.eq_false_or_eq_true r with hrb | hrb
    case inr =>
      subst hrb
      clear hr1
      go_wp2
      go_ret
      exact ⟨rfl, hB⟩
    have hsd := hr1 hrb
    subst hrb
    clear hr1 hb2
    have hbok := Hp.bl_ok hsd
    have hbu := Hp.bl_used hsd
    have hbf := fun {x} => Hp.cov_free (x := x) hsd
    obtain ⟨hokh, P, hP, _, hP64, _⟩ := Hp.sound_all hsd
    have hp1 : 1 ≤ h.p ∧ h.p ≤ 64 := by
      have hm : mayB h.p h.c h.m = true := by unfold Hp.ok at hokh; rw [Bool.and_eq_true] at hokh; exact hokh.1
      have := mayB_iff.1 hm
      omega
    clear hP hokh
    have hp64 : IntKind.i64.wrap (h.p * 64) = h.p * 64 := IntWalk.i64_in _ ⟨by omega, by omega⟩
    have hcw : Hid (capW (h.p * 64) = 64 * h.p) := Lib.hid (by unfold capW; rw [if_neg (by omega)]; omega)
    obtain ⟨Wd, hWd⟩ : ∃ Wd : Int, Wd = 64 * h.p := ⟨_, rfl⟩
    rw [← hWd] at hcw hbok
    have hW1 : 64 ≤ Wd ∧ Wd ≤ 4096 := by omega
    have hbt := fun i (hi : i < h.bl.length) => hbok.takes i hi
    have hbm := fun i (hi : i < h.bl.length) => hbok.mem _ (List.getElem_mem hi)
    have hbl2 := fun i j (hij : i < j) (hj : j < h.bl.length) => hbok.lt i j hij hj
    have hbf : Hid (∀ i (hi : i < h.bl.length) (x : Int), h.bl[i].a ≤ x → x < h.bl[i].a + h.bl[i].n → h.holdB x = false) := Lib.hid fun i hi x h1 h2 => by
      have := hbm i hi
      exact hbf (by omega) (by omega) (cov_iff.2 ⟨_, List.getElem_mem hi, h1, h2⟩)
    have hll := h.bl_len
    replace hbt := Lib.hid hbt
    replace hbm := Lib.hid hbm
    replace hbl2 := Lib.hid hbl2
    replace hbu := Lib.hid hbu
    replace hWd := Lib.hid hWd
    replace hsd := Lib.hid hsd
    generalize h.bl = bs at *
    go_wp2_with fail
    refine (rnew_any _ _).mono ?_
    rintro e w3 ⟨rfl, hb3, m3⟩
    rw [hcw.out] at m3
    obtain ⟨s, hs, hs'⟩ : ∃ s, Hid (s = w2.heap.size) ∧ s = w2.heap.size := ⟨_, Lib.hid rfl, rfl⟩
    rw [← hs'] at m3 ⊢
    have hBs := hB.size
    rw [← hs'] at lS
    have hsw : w.heap.size ≤ s := by omega
    have c0 := keepF hb3 _ _ _ c0
    have c1 := keepF hb3 _ _ _ c1
    have c2 := keepF hb3 _ _ _ c2
    have hB := hB.trans (hb3.mono hB.size)
    clear hs' hb3
    go_wp2_with fail
    refine (hblocks.out _ hB).mono ?_
    rintro e w5 ⟨bv, rfl, hb5, ho5⟩
    have m5 := m3.below hb5
    have c0 := keepF hb5 _ _ _ c0
    have c1 := keepF hb5 _ _ _ c1
    have c2 := keepF hb5 _ _ _ c2
    have hB := hB.trans (hb5.mono hB.size)
    have hrk : RdK w5 bv bs := RdS.of_own ho5
    have howl := ho5.lt
    obtain ⟨ko, kcap, rfl, hkcap, hkm, hkrow⟩ := hrk.nth
    have hkrow : Hid (∀ i, i < bs.length → ∃ b off, ko = some ⟨b, off, .none⟩ ∧ (s < b ∧ b < w5.heap.size) ∧ ∀ i (hi : i < bs.length), w5.cell? ⟨b, off + i * 2, .none⟩ = some (.int .i64 bs[i].a) ∧ w5.cell? ⟨b, off + i * 2 + 1, .none⟩ = some (.int .i64 bs[i].n)) := Lib.hid fun i hi => by
      obtain ⟨b, off, e, hb, hc⟩ := hkrow (fun e => by rw [e] at hi; simp at hi)
      subst e
      have := howl b rfl
      have := m3.lt
      exact ⟨b, off, rfl, ⟨by omega, hb⟩, hc⟩
    obtain ⟨K, hK, hK'⟩ : ∃ K, Hid (K = bs.length) ∧ K = bs.length := ⟨_, Lib.hid rfl, rfl⟩
    rw [← hK'] at hkcap hll ⊢
    clear hK' hb5 ho5 hrk m3 howl
    have lS5 : s < w5.heap.size := m5.lt
    have hstep : Hid (∀ (X Y Z : World) (sl sl' : Value), (Only (fun k => k = s) w5 X ∧ ∀ k, foot s sl k → k = s ∨ w5.heap.size ≤ k) → Only (fun _ => False) X Y → Only (foot s sl) Y Z → (∀ k, foot s sl' k → foot s sl k ∨ Y.heap.size ≤ k) → (Only (fun k => k = s) w5 Z ∧ ∀ k, foot s sl' k → k = s ∨ w5.heap.size ≤ k)) := Lib.hid fun X Y Z sl sl' ⟨h1, h2⟩ h3 h4 h5 => by
      refine ⟨((h1.trans h3 (fun _ _ e => e.elim)).trans h4 (fun i hi hg => ?_)), fun k hk => ?_⟩
      · rcases h2 i hg with e | e
        · exact e
        · omega
      · rcases h5 k hk with e | e
        · exact h2 k e
        · have := h1.size; have := h3.size; exact .inr (by omega)
    have hkp : Hid (∀ (X : World), Only (fun k => k = s) w5 X → ∀ b, b < w5.heap.size → b ≠ s → ∀ o, X.cell? ⟨b, o, .none⟩ = w5.cell? ⟨b, o, .none⟩) := Lib.hid fun X ho b hb hbs o => by
      have := ho.block b hb hbs
      simp only [World.cell?]
      rw [this]
    have hbel : Hid (∀ X, Only (fun k => k = s) w5 X → Below w.heap.size w X) := Lib.hid fun X ho => Only.below' hB ho hB.size (fun k e => by omega)
    go_wp2_with fail
    go_loopw [7] (fun vi wr => ∃ (i : Nat) (sl : Value), i ≤ K ∧ vi = .int .i64 i ∧ RM s wr s sl Wd (bs.take i) ∧ (Only (fun k => k = s) w5 wr ∧ ∀ k, foot s sl k → k = s ∨ w5.heap.size ≤ k)) (fun vi _ => K - (intOf vi).toNat)
    case atStart => exact ⟨0, _, Nat.zero_le _, rfl, m5, Only.refl _ _, fun k hk => by rcases hk with e | e; exact .inl e; simp [Value.ownBlock] at e⟩
    case round =>
      obtain ⟨i, sl, hi, rfl, mr, hfo⟩ := hrel
      by_cases hlt : i < K
      · have hil : i < bs.length := hK.out ▸ hlt
        obtain ⟨b, off, rfl, ⟨hb1, hb2⟩, hc⟩ := hkrow.out i hil
        obtain ⟨x0, x1⟩ := hc i hil
        obtain ⟨htk, htb⟩ := hbt.out i hil
        obtain ⟨hm1, hm2, hm3⟩ := hbm.out i hil
        have hbfi := Lib.hid (hbf.out i hil)
        have hprev : 0 < i → ∃ A1 : Int, w5.cell? ⟨b, off + (i - 1) * 2, .none⟩ = some (.int .i64 A1) ∧ A1 < bs[i].a := fun h0 => by
          obtain ⟨y0, _⟩ := hc (i - 1) (by omega)
          have := hbl2.out (i - 1) i (by omega) hil
          have := (hbm.out (i - 1) (by omega)).2.1
          exact ⟨_, y0, by omega⟩
        clear hc
        generalize bs[i].a = Ba at *
        generalize bs[i].n = Bn at *
        have hzz : Hid (∀ X, Only (fun k => k = s) w5 X → X.cell? ⟨b, off + i * 2, .none⟩ = some (.int .i64 Ba) ∧ X.cell? ⟨b, off + i * 2 + 1, .none⟩ = some (.int .i64 Bn)) := Lib.hid fun X ho => ⟨(hkp.out X ho b hb2 (by omega) _).trans x0, (hkp.out X ho b hb2 (by omega) _).trans x1⟩
        obtain ⟨v0, v1⟩ := hzz.out _ hfo.1
        have hii : (i : Int) < (K : Int) := by omega
        have hi0' : (0 : Int) ≤ (i : Int) := by omega
        clear x0 x1
        replace htb := Lib.hid htb
        go_upto_region 10 with fail
        go_cut [65] (fun vv wx => vv = .bool false ∧ ∃ sl' : Value, RM s wx s sl' Wd (bs.take (i + 1)) ∧ (Only (fun k => k = s) w5 wx ∧ ∀ k, foot s sl' k → k = s ∨ w5.heap.size ≤ k))
        case first =>
          by_cases h0 : i = 0
          · subst h0
            simp only [Nat.zero_mul, Nat.add_zero] at v0 v1 hzz
            refine wp_region_held_drew (S := fun X => X.cell? ⟨b, off, .none⟩ = some (.int .i64 Ba) ∧ X.cell? ⟨b, off + 1, .none⟩ = some (.int .i64 Bn)) (by kernel_rfl) ⟨v0, v1⟩ (fun hHeld => ?_)
            refine wpAnyH_take (i := 0) (v := .pointer (some ⟨s, 0, .none⟩)) rfl (by kernel_rfl) (by kernel_rfl) (by kernel_rfl) (fun _ _ _ h => h) (Or.inl ⟨by rfl, fun w2 ⟨q0, q1⟩ => by go_simp⟩) (by assumption) ?_
            dsimp only [Act.put, List.getElem_toArray, List.getElem_cons_succ, List.getElem_cons_zero]
            simp only [List.setIfInBounds_toArray, List.set_cons_zero, List.set_cons_succ]
            refine wpAnyH_take (i := 1) (v := .slice (some ⟨b, off, .none⟩) K kcap) rfl (by kernel_rfl) (by kernel_rfl) (by kernel_rfl) (fun _ _ _ h => h) (Or.inl ⟨by rfl, fun w2 ⟨q0, q1⟩ => by go_simp⟩) (by assumption) ?_
            dsimp only [Act.put, List.getElem_toArray, List.getElem_cons_succ, List.getElem_cons_zero]
            simp only [List.setIfInBounds_toArray, List.set_cons_zero, List.set_cons_succ]
            refine wpAnyH_take (i := 2) (v := .int .i64 0) rfl (by kernel_rfl) (by kernel_rfl) (by kernel_rfl) (fun _ _ _ h => h) (Or.inl ⟨by rfl, fun w2 ⟨q0, q1⟩ => by go_simp⟩) (by assumption) ?_
            dsimp only [Act.put, List.getElem_toArray, List.getElem_cons_succ, List.getElem_cons_zero]
            simp only [List.setIfInBounds_toArray, List.set_cons_zero, List.set_cons_succ]
            refine wpAnyH_take (i := 3) (v := .pointer (some ⟨b, off, .none⟩)) rfl (by kernel_rfl) (by kernel_rfl) (by kernel_rfl) (fun _ _ _ h => h) (Or.inl ⟨by rfl, fun w2 ⟨q0, q1⟩ => by go_simp⟩) (by assumption) ?_
            dsimp only [Act.put, List.getElem_toArray, List.getElem_cons_succ, List.getElem_cons_zero]
            simp only [List.setIfInBounds_toArray, List.set_cons_zero, List.set_cons_succ]
            refine wpAnyH_take (i := 4) (v := .pointer (some ⟨b, off, .none⟩)) rfl (by kernel_rfl) (by kernel_rfl) (by kernel_rfl) (fun _ _ _ h => h) (Or.inl ⟨by rfl, fun w2 ⟨q0, q1⟩ => by go_simp⟩) (by assumption) ?_
            dsimp only [Act.put, List.getElem_toArray, List.getElem_cons_succ, List.getElem_cons_zero]
            simp only [List.setIfInBounds_toArray, List.set_cons_zero, List.set_cons_succ]
            refine wpAnyH_take (i := 5) (v := .int .i64 Ba) rfl (by kernel_rfl) (by kernel_rfl) (by kernel_rfl) (fun _ _ _ h => h) (Or.inl ⟨by rfl, fun w2 ⟨q0, q1⟩ => by go_simp⟩) (by assumption) ?_
            dsimp only [Act.put, List.getElem_toArray, List.getElem_cons_succ, List.getElem_cons_zero]
            simp only [List.setIfInBounds_toArray, List.set_cons_zero, List.set_cons_succ]
            refine wpAnyH_take (i := 6) (v := .slice (some ⟨b, off, .none⟩) K kcap) rfl (by kernel_rfl) (by kernel_rfl) (by kernel_rfl) (fun _ _ _ h => h) (Or.inl ⟨by rfl, fun w2 ⟨q0, q1⟩ => by go_simp⟩) (by assumption) ?_
            dsimp only [Act.put, List.getElem_toArray, List.getElem_cons_succ, List.getElem_cons_zero]
            simp only [List.setIfInBounds_toArray, List.set_cons_zero, List.set_cons_succ]
            refine wpAnyH_take (i := 7) (v := .int .i64 0) rfl (by kernel_rfl) (by kernel_rfl) (by kernel_rfl) (fun _ _ _ h => h) (Or.inl ⟨by rfl, fun w2 ⟨q0, q1⟩ => by go_simp⟩) (by assumption) ?_
            dsimp only [Act.put, List.getElem_toArray, List.getElem_cons_succ, List.getElem_cons_zero]
            simp only [List.setIfInBounds_toArray, List.set_cons_zero, List.set_cons_succ]
            refine wpAnyH_take (i := 8) (v := .pointer (some ⟨b, off, .none⟩)) rfl (by kernel_rfl) (by kernel_rfl) (by kernel_rfl) (fun _ _ _ h => h) (Or.inl ⟨by rfl, fun w2 ⟨q0, q1⟩ => by go_simp⟩) (by assumption) ?_
            dsimp only [Act.put, List.getElem_toArray, List.getElem_cons_succ, List.getElem_cons_zero]
            simp only [List.setIfInBounds_toArray, List.set_cons_zero, List.set_cons_succ]
            refine wpAnyH_take (i := 9) (v := .pointer (some ⟨b, off + 1, .none⟩)) rfl (by kernel_rfl) (by kernel_rfl) (by kernel_rfl) (fun _ _ _ h => h) (Or.inl ⟨by rfl, fun w2 ⟨q0, q1⟩ => by go_simp⟩) (by assumption) ?_
            dsimp only [Act.put, List.getElem_toArray, List.getElem_cons_succ, List.getElem_cons_zero]
            simp only [List.setIfInBounds_toArray, List.set_cons_zero, List.set_cons_succ]
            refine wpAnyH_take (i := 10) (v := .int .i64 Bn) rfl (by kernel_rfl) (by kernel_rfl) (by kernel_rfl) (fun _ _ _ h => h) (Or.inl ⟨by rfl, fun w2 ⟨q0, q1⟩ => by go_simp⟩) (by assumption) ?_
            dsimp only [Act.put, List.getElem_toArray, List.getElem_cons_succ, List.getElem_cons_zero]
            simp only [List.setIfInBounds_toArray, List.set_cons_zero, List.set_cons_succ]
            refine wpAnyH_ready (rs := [11]) (by kernel_rfl) (by simp) ?_
            refine AllReadyH.cons rfl (fun K1 hK1 => ?_) AllReadyH.nil
            rw [if_pos (by rfl)]
            go_simp
            refine (rtake_any (mr.below (Below.refl _ _).drew) Ba Bn (by omega) (by omega) (by omega) (by omega)).mono ?_
            rintro e w6 ⟨rfl, sl6, m6, o6, f6⟩
            rw [htk]
            dsimp only
            have hh6 := hstep.out _ _ _ _ _ hfo (Only.refl _ _).drew o6 f6
            have z0 := hzz.out _ hh6.1
            refine hK1.out _ _ z0 (fun hHeld => ?_)
            clear hK1 K1
            refine wpAnyH_take (i := 12) (v := .bool false) rfl (by kernel_rfl) (by kernel_rfl) (by kernel_rfl) (fun _ _ _ h => h) (Or.inl ⟨by rfl, fun w2 ⟨q0, q1⟩ => by go_simp⟩) (by assumption) ?_
            dsimp only [Act.put, List.getElem_toArray, List.getElem_cons_succ, List.getElem_cons_zero]
            simp only [List.setIfInBounds_toArray, List.set_cons_zero, List.set_cons_succ]
            refine wpAnyH_take (i := 13) (v := .bool false) rfl (by kernel_rfl) (by kernel_rfl) (by kernel_rfl) (fun _ _ _ h => h) (Or.inl ⟨by rfl, fun w2 ⟨q0, q1⟩ => by go_simp⟩) (by assumption) ?_
            dsimp only [Act.put, List.getElem_toArray, List.getElem_cons_succ, List.getElem_cons_zero]
            simp only [List.setIfInBounds_toArray, List.set_cons_zero, List.set_cons_succ]
            refine wpAnyH_take (i := 14) (v := .int .i64 0) rfl (by kernel_rfl) (by kernel_rfl) (by kernel_rfl) (fun _ _ _ h => h) (Or.inl ⟨by rfl, fun w2 ⟨q0, q1⟩ => by go_simp⟩) (by assumption) ?_
            dsimp only [Act.put, List.getElem_toArray, List.getElem_cons_succ, List.getElem_cons_zero]
            simp only [List.setIfInBounds_toArray, List.set_cons_zero, List.set_cons_succ]
            refine wpAnyH_take (i := 15) (v := .bool false) rfl (by kernel_rfl) (by kernel_rfl) (by kernel_rfl) (fun _ _ _ h => h) (Or.inl ⟨by rfl, fun w2 ⟨q0, q1⟩ => by go_simp⟩) (by assumption) ?_
            dsimp only [Act.put, List.getElem_toArray, List.getElem_cons_succ, List.getElem_cons_zero]
            simp only [List.setIfInBounds_toArray, List.set_cons_zero, List.set_cons_succ]
            refine wpAnyH_take (i := 16) (v := .bool false) rfl (by kernel_rfl) (by kernel_rfl) (by kernel_rfl) (fun _ _ _ h => h) (Or.inl ⟨by rfl, fun w2 ⟨q0, q1⟩ => by go_simp⟩) (by assumption) ?_
            dsimp only [Act.put, List.getElem_toArray, List.getElem_cons_succ, List.getElem_cons_zero]
            simp only [List.setIfInBounds_toArray, List.set_cons_zero, List.set_cons_succ]
            refine wpAnyH_take (i := 17) (v := undef) rfl (by kernel_rfl) (by kernel_rfl) (by kernel_rfl) (fun _ _ _ h => h) (Or.inr ⟨by rfl, rfl⟩) (by assumption) ?_
            dsimp only [Act.put, List.getElem_toArray, List.getElem_cons_succ, List.getElem_cons_zero]
            simp only [List.setIfInBounds_toArray, List.set_cons_zero, List.set_cons_succ]
            refine wpAnyH_take (i := 18) (v := undef) rfl (by kernel_rfl) (by kernel_rfl) (by kernel_rfl) (fun _ _ _ h => h) (Or.inr ⟨by rfl, rfl⟩) (by assumption) ?_
            dsimp only [Act.put, List.getElem_toArray, List.getElem_cons_succ, List.getElem_cons_zero]
            simp only [List.setIfInBounds_toArray, List.set_cons_zero, List.set_cons_succ]
            refine wpAnyH_take (i := 19) (v := undef) rfl (by kernel_rfl) (by kernel_rfl) (by kernel_rfl) (fun _ _ _ h => h) (Or.inr ⟨by rfl, rfl⟩) (by assumption) ?_
            dsimp only [Act.put, List.getElem_toArray, List.getElem_cons_succ, List.getElem_cons_zero]
            simp only [List.setIfInBounds_toArray, List.set_cons_zero, List.set_cons_succ]
            refine wpAnyH_take (i := 20) (v := undef) rfl (by kernel_rfl) (by kernel_rfl) (by kernel_rfl) (fun _ _ _ h => h) (Or.inr ⟨by rfl, rfl⟩) (by assumption) ?_
            dsimp only [Act.put, List.getElem_toArray, List.getElem_cons_succ, List.getElem_cons_zero]
            simp only [List.setIfInBounds_toArray, List.set_cons_zero, List.set_cons_succ]
            refine wpAnyH_take (i := 21) (v := undef) rfl (by kernel_rfl) (by kernel_rfl) (by kernel_rfl) (fun _ _ _ h => h) (Or.inr ⟨by rfl, rfl⟩) (by assumption) ?_
            dsimp only [Act.put, List.getElem_toArray, List.getElem_cons_succ, List.getElem_cons_zero]
            simp only [List.setIfInBounds_toArray, List.set_cons_zero, List.set_cons_succ]
            refine wpAnyH_take (i := 22) (v := undef) rfl (by kernel_rfl) (by kernel_rfl) (by kernel_rfl) (fun _ _ _ h => h) (Or.inr ⟨by rfl, rfl⟩) (by assumption) ?_
            dsimp only [Act.put, List.getElem_toArray, List.getElem_cons_succ, List.getElem_cons_zero]
            simp only [List.setIfInBounds_toArray, List.set_cons_zero, List.set_cons_succ]
            refine wpAnyH_take (i := 23) (v := undef) rfl (by kernel_rfl) (by kernel_rfl) (by kernel_rfl) (fun _ _ _ h => h) (Or.inr ⟨by rfl, rfl⟩) (by assumption) ?_
            dsimp only [Act.put, List.getElem_toArray, List.getElem_cons_succ, List.getElem_cons_zero]
            simp only [List.setIfInBounds_toArray, List.set_cons_zero, List.set_cons_succ]
            refine wpAnyH_take (i := 24) (v := undef) rfl (by kernel_rfl) (by kernel_rfl) (by kernel_rfl) (fun _ _ _ h => h) (Or.inr ⟨by rfl, rfl⟩) (by assumption) ?_
            dsimp only [Act.put, List.getElem_toArray, List.getElem_cons_succ, List.getElem_cons_zero]
            simp only [List.setIfInBounds_toArray, List.set_cons_zero, List.set_cons_succ]
            refine wpAnyH_take (i := 25) (v := undef) rfl (by kernel_rfl) (by kernel_rfl) (by kernel_rfl) (fun _ _ _ h => h) (Or.inr ⟨by rfl, rfl⟩) (by assumption) ?_
            dsimp only [Act.put, List.getElem_toArray, List.getElem_cons_succ, List.getElem_cons_zero]
            simp only [List.setIfInBounds_toArray, List.set_cons_zero, List.set_cons_succ]
            refine wpAnyH_take (i := 26) (v := undef) rfl (by kernel_rfl) (by kernel_rfl) (by kernel_rfl) (fun _ _ _ h => h) (Or.inr ⟨by rfl, rfl⟩) (by assumption) ?_
            dsimp only [Act.put, List.getElem_toArray, List.getElem_cons_succ, List.getElem_cons_zero]
            simp only [List.setIfInBounds_toArray, List.set_cons_zero, List.set_cons_succ]
            refine wpAnyH_take (i := 27) (v := undef) rfl (by kernel_rfl) (by kernel_rfl) (by kernel_rfl) (fun _ _ _ h => h) (Or.inr ⟨by rfl, rfl⟩) (by assumption) ?_
            dsimp only [Act.put, List.getElem_toArray, List.getElem_cons_succ, List.getElem_cons_zero]
            simp only [List.setIfInBounds_toArray, List.set_cons_zero, List.set_cons_succ]
            refine wpAnyH_take (i := 28) (v := undef) rfl (by kernel_rfl) (by kernel_rfl) (by kernel_rfl) (fun _ _ _ h => h) (Or.inr ⟨by rfl, rfl⟩) (by assumption) ?_
            dsimp only [Act.put, List.getElem_toArray, List.getElem_cons_succ, List.getElem_cons_zero]
            simp only [List.setIfInBounds_toArray, List.set_cons_zero, List.set_cons_succ]
            refine wpAnyH_take (i := 29) (v := .bool false) rfl (by kernel_rfl) (by kernel_rfl) (by kernel_rfl) (fun _ _ _ h => h) (Or.inl ⟨by rfl, fun w2 ⟨q0, q1⟩ => by go_simp⟩) (by assumption) ?_
            dsimp only [Act.put, List.getElem_toArray, List.getElem_cons_succ, List.getElem_cons_zero]
            simp only [List.setIfInBounds_toArray, List.set_cons_zero, List.set_cons_succ]
            refine wpAnyH_take (i := 30) (v := .bool false) rfl (by kernel_rfl) (by kernel_rfl) (by kernel_rfl) (fun _ _ _ h => h) (Or.inl ⟨by rfl, fun w2 ⟨q0, q1⟩ => by go_simp⟩) (by assumption) ?_
            dsimp only [Act.put, List.getElem_toArray, List.getElem_cons_succ, List.getElem_cons_zero]
            simp only [List.setIfInBounds_toArray, List.set_cons_zero, List.set_cons_succ]
            refine wpAnyH_done (by kernel_rfl) ?_ _
            go_wp2_with fail
            go_meet
            case rel => exact ⟨rfl, _, by rw [← htb.out]; exact m6, hh6⟩
          · obtain ⟨A1, p0, p1⟩ := hprev (by omega)
            have hzp : Hid (∀ X, Only (fun k => k = s) w5 X → X.cell? ⟨b, off + (i - 1) * 2, .none⟩ = some (.int .i64 A1)) := Lib.hid fun X ho => (hkp.out X ho b hb2 (by omega) _).trans p0
            have v2 := hzp.out _ hfo.1
            have hq0 : (0 : Int) < (i : Int) := by omega
            have hq1 : (1 : Int) ≤ (i : Int) := by omega
            have hq2 : (0 : Int) ≤ (i : Int) - 1 := by omega
            have hq3 : (i : Int) - 1 < (K : Int) := by omega
            have hq4 : IntKind.i64.wrap ((i : Int) - 1) = (i : Int) - 1 := IntWalk.i64_in _ ⟨by omega, by omega⟩
            have hq5 : ((i : Int) - 1).toNat = i - 1 := by omega
            have hq6 : ¬ Ba ≤ A1 := by omega
            have hq7 : 0 < i := by omega
            have hq8 : decide (0 < i) = true := decide_eq_true hq7
            have hq9 : decide ((0 : Int) < (i : Int)) = true := decide_eq_true hq0
            clear h0 p0
            go_region_held3 (fun X => (X.cell? ⟨b, off + i * 2, .none⟩ = some (.int .i64 Ba) ∧ X.cell? ⟨b, off + i * 2 + 1, .none⟩ = some (.int .i64 Bn)) ∧ X.cell? ⟨b, off + (i - 1) * 2, .none⟩ = some (.int .i64 A1))
              (first | exact ⟨⟨v0, v1⟩, v2⟩ | exact ⟨hzz.out _ hh6.1, hzp.out _ hh6.1⟩ | go_keep)
              ((go_at_call 34; refine (rtake_any (mr.below (Below.refl _ _).drew) Ba Bn (by omega) (by omega) (by omega) (by omega)).mono ?_; rintro e w6 ⟨rfl, sl6, m6, o6, f6⟩; rw [htk]; have hh6 := hstep.out _ _ _ _ _ hfo (Only.refl _ _).drew o6 f6))
            go_wp2_with fail
            go_meet
            case rel => exact ⟨by rw [decide_eq_false (show ¬ Ba ≤ A1 by omega)], _, by rw [← htb.out]; exact m6, hh6⟩
        case rest =>
          obtain ⟨rfl, sl7, m7, hh7⟩ := hcut
          clear hprev htk htb v0 v1
          obtain ⟨W7, rfl⟩ : ∃ V : World, V = wc := ⟨_, rfl⟩
          obtain ⟨v0, v1⟩ := hzz.out _ hh7.1
          have hB7 := hbel.out _ hh7.1
          have c0 := (hkp.out _ hh7.1 H (by omega) (by omega) 0).trans c0
          have c1 := (hkp.out _ hh7.1 H (by omega) (by omega) 1).trans c1
          have c2 := (hkp.out _ hh7.1 H (by omega) (by omega) 2).trans c2
          have hwab : IntKind.i64.wrap (Ba + Bn) = Ba + Bn := IntWalk.i64_in _ ⟨by omega, by omega⟩
          have lS7 : s < W7.heap.size := m7.lt
          have hB7s := hB7.size
          go_wp2_with fail
          go_loopw [8] (fun va wr => ∃ x : Int, Ba ≤ x ∧ x ≤ Ba + Bn ∧ va = .int .i64 x ∧ Below W7.heap.size W7 wr) (fun va _ => (Ba + Bn - intOf va).toNat)
          case atStart => exact ⟨Ba, by omega, by omega, rfl, Below.refl _ _⟩
          case round =>
            obtain ⟨x, hx0, hx1, rfl, hbr⟩ := hrel
            have d0 := keepF hbr _ _ _ c0
            have d1 := keepF hbr _ _ _ c1
            have d2 := keepF hbr _ _ _ c2
            have e0 := keepF hbr _ _ _ v0
            have e1 := keepF hbr _ _ _ v1
            have hBr := hB7.trans (hbr.mono hB7s)
            by_cases hlt : x < Ba + Bn
            · have hho := hholder.out x
              rw [hbfi.out x hx0 hlt] at hho
              generalize h.holdC x = hcx at *
              have wx1 : IntKind.i64.wrap (x + 1) = x + 1 := IntWalk.i64_in _ ⟨by omega, by omega⟩
              replace hho := Lib.hid hho
              go_wp2_with fail
              go_quiet (fail)
              have hBq : Below w.heap.size w (wr.drewN nq) := below_drewN hBr _
              have hbq : Below W7.heap.size W7 (wr.drewN nq) := below_drewN hbr _
              have g0 : (wr.drewN nq).cell? ⟨H, 0, .none⟩ = some (.int .i64 h.p) := d0
              have g1 : (wr.drewN nq).cell? ⟨H, 1, .none⟩ = some (.int .i64 h.c) := d1
              have g2 : (wr.drewN nq).cell? ⟨H, 2, .none⟩ = some (.int .i64 h.m) := d2
              clear d0 d1 d2 e0 e1 hbr hBr
              generalize wr.drewN nq = W8 at *
              go_wp2_with fail
              refine (hho.out _ hBq).mono ?_
              rintro e w9 ⟨rfl, hb9⟩
              go_wp2
              exact ⟨⟨x + 1, by omega, by omega, rfl, hbq.trans (hb9.mono hbq.size)⟩, by simp [intOf]; omega⟩
            · have hxe : x = Ba + Bn := by omega
              go_wp2_with fail
              go_quiet (fail)
              have hbq : Below W7.heap.size W7 (wr.drewN nq) := below_drewN hbr _
              generalize wr.drewN nq = W8 at *
              go_wp2
              exact ⟨⟨i + 1, sl7, by omega, by go_num, m7.below hbq, hh7.1.trans (Only.of_below (F := fun _ => False) hbq) (fun _ _ e => e.elim), hh7.2⟩, by simp [intOf]; omega⟩
      · have hie : i = K := by omega
        subst hie
        have hj0 : ¬ ((i : Int) < (i : Int)) := by omega
        rw [List.take_of_length_le (by rw [← hK.out]; exact Nat.le_refl _)] at mr
        have hBr := hbel.out _ hfo.1
        have c0 := (hkp.out _ hfo.1 H (by omega) (by omega) 0).trans c0
        have c1 := (hkp.out _ hfo.1 H (by omega) (by omega) 1).trans c1
        have c2 := (hkp.out _ hfo.1 H (by omega) (by omega) 2).trans c2
        have hxw : Hid (∀ e : Ext wr, Calls Try.prog 25 #[.agg #[.int .i64 h.p, .int .i64 h.c, .int .i64 h.m], .slice ao N cap] e.w fun r w' => r = .returned (.agg #[.int .i64 h.count.f, .int .i64 h.count.t, .int .i64 h.count.l, .int .i64 h.count.o]) ∧ Below e.w.heap.size e.w w') := Lib.hid fun e => hwords.out _ (hBr.trans (e.below.mono hBr.size))
        have hxu : Hid (∀ e : Ext wr, Calls Try.prog 35 #[.pointer (some ⟨s, 0, .none⟩)] e.w fun r w' => r = .returned (.int .i64 h.count.t) ∧ Below e.w.heap.size e.w w') := Lib.hid fun e => by
          have := rused_any (mr.below e.below)
          rwa [hbu.out] at this
        generalize h.count = C at *
        have lSr : H < wr.heap.size := by have := hfo.1.size; omega
        clear hkrow hbt hbm hbl2 hbf hstep hkp hlt
        go_wp2_with fail
        refine wp_region_ext (by kernel_rfl) (by kernel_rfl) ?_
        repeat (go_big_quiet_step ((first
          | (go_at_call 25; exact ext_of (hxw.out _))
          | (go_at_call 35; exact ext_of (hxu.out _)))))
        refine wpQuiet_nil ?_
        rintro _ ⟨e, rfl⟩
        go_wp2
        go_ret
        exact ⟨rfl, hBr.trans (e.below.mono hBr.size)⟩
end Go.Proofs.Ytfknaheijidhcaa

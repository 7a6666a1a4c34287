/- The law JudgeAnswers: the walk. -/
import Derived.Test.YtclidckjnoafcaaJudA

import Derived.Test.YtclidckjnoafcaaJudAnsP

import Derived.Test.YtclidckjnoafcaaRefS

namespace Go.Proofs.Ytclidckjnoafcaa

open Go.RowKit

attribute [local go_sem ↓] Go.wp_at_zero Go.wp_at_succ

abbrev fiC : Obj := .cells #[.int .i64 1, .int .i64 0, .int .i64 8] 31
/-- The judge behind a row of events; the block of 'first'. -/
def StA (W X : World) (jb s pb K : Nat) (L : List Ev) : Prop :=
  ∃ sl, JgA W.heap.size X jb s pb sl (runJ (newJ 2 2 0) L) ∧ Below W.heap.size W X ∧ X.heap[K]? = some (.cells #[.int .i64 1, .int .i64 0, .int .i64 8] 31 (0, 0)) ∧ K ≠ jb ∧ K ≠ pb ∧ K ≠ s ∧ sl.ownBlock ≠ some K
section

variable {W X X' : World} {jb s pb K : Nat} {L : List Ev}

theorem StA.below (h : StA W X jb s pb K L) (hb : Below X.heap.size X X') : StA W X' jb s pb K L := by
  obtain ⟨sl, h1, h2, h3, h4⟩ := h
  exact ⟨sl, h1.below hb, h2.trans (hb.mono h2.size), (hb.block K (Array.getElem?_eq_some_iff.1 h3).1).trans h3, h4⟩
theorem StA.hear (h : StA W X jb s pb K L) (e : Ev) (hf : e.fit) (hl : L.length ≤ 100000) :
    Calls Try.prog 10 #[.pointer (some ⟨jb, 0, .none⟩), e.val] X fun r w' => r = .returned (.bool (hearB (runJ (newJ 2 2 0) L) e)) ∧ StA W w' jb s pb K (L ++ [e]) := by
  obtain ⟨sl, h1, h2, h3, k1, k2, k3, k4⟩ := h
  obtain ⟨hm, hn⟩ := run_small 2 2 0 L hl
  refine (hear_any h1 e hf hm hn).mono ?_
  rintro r w' ⟨rfl, ⟨sl', hj', hsl⟩, ho⟩
  have hK : K < X.heap.size := (Array.getElem?_eq_some_iff.1 h3).1
  refine ⟨rfl, sl', ?_, h2.trans (ho.below h2.size (footJ_base h1)), (ho.block K hK ?_).trans h3, k1, k2, k3, ?_⟩
  · rw [show runJ (newJ 2 2 0) (L ++ [e]) = hearJ (runJ (newJ 2 2 0) L) e by simp [runJ]]
    exact hj'
  · rintro (e | e | e | e)
    · exact k1 e
    · exact k2 e
    · exact k3 e
    · exact k4 e
  · intro e
    rcases hsl K e with e2 | e2
    · exact k4 e2
    · omega
theorem StA.k0 (h : StA W X jb s pb K L) : X.cell? ⟨K, 0, .none⟩ = some (.int .i64 1) := rowCells h.choose_spec.2.2.1 0
theorem StA.k1 (h : StA W X jb s pb K L) : X.cell? ⟨K, 1, .none⟩ = some (.int .i64 0) := rowCells h.choose_spec.2.2.1 1
theorem StA.k2 (h : StA W X jb s pb K L) : X.cell? ⟨K, 2, .none⟩ = some (.int .i64 8) := rowCells h.choose_spec.2.2.1 2
theorem StA.bel (h : StA W X jb s pb K L) : Below W.heap.size W X := h.choose_spec.2.1
end

set_option maxRecDepth 100000 in
set_option maxHeartbeats 4000000 in
theorem judgeAnswers_any (k a n err : Int) (blk : Bool) (w : World) (he : 0 ≤ err ∧ err < 256) :
    Calls Try.prog 4 #[.agg #[.int .i64 k, .int .i64 a, .int .i64 n], .int .u8 err, .bool blk] w fun e w' => e = .returned (.bool true) ∧ Below w.heap.size w w' := by
  have haw := Lib.hid (fun X => awake7_any X)
  have hnw := Lib.hid (fun X => jnew_any 2 2 0 X)
  have hln := Lib.hid (fun X => rfLength_any n X)
  have hnil : ∀ W a, (binOp .eql 32 (.pointer (some a)) (.pointer none)).run Try.prog W = .ok (.bool false) W := fun W a => by kernel_rfl
  obtain ⟨t1, t2⟩ : (w.alloc (.cells #[.int .i64 k, .int .i64 a, .int .i64 n] 31)).heap[w.heap.size]? = some (.cells #[.int .i64 k, .int .i64 a, .int .i64 n] 31 (0, 0)) ∧ Below w.heap.size w (w.alloc (.cells #[.int .i64 k, .int .i64 a, .int .i64 n] 31)) := ⟨heap_alloc_new w _, (Below.refl w.heap.size w).alloc (Nat.le_refl _) _⟩
  obtain ⟨H, hH, hH'⟩ : ∃ H, Hid (H = w.heap.size) ∧ H = w.heap.size := ⟨_, Lib.hid rfl, rfl⟩
  go_enter Try.func4, Try.ntmps4
  go_upto_region 1 with fail
  generalize w.alloc (.cells #[.int .i64 k, .int .i64 a, .int .i64 n] 31) = W0 at *
  rw [← hH'] at t1 ⊢
  clear hH'
  go_wp2_with fail
  refine (haw.out W0).mono ?_
  rintro r W1 ⟨rfl, hb1⟩
  have u1 := (hb1.block H (Array.getElem?_eq_some_iff.1 t1).1).trans t1
  have hB1 : Below w.heap.size w W1 := t2.trans (hb1.mono t2.size)
  clear hb1 t1 t2
  obtain ⟨G, hG, hG'⟩ : ∃ G, Hid (G = W1.heap.size) ∧ G = W1.heap.size := ⟨_, Lib.hid rfl, rfl⟩
  have bS := (Below.refl W1.heap.size W1).alloc (Nat.le_refl _) (.cells #[.int .i64 2, .int .i64 2, .int .i64 0] 23)
  have tS := heap_alloc_new W1 (.cells #[.int .i64 2, .int .i64 2, .int .i64 0] 23)
  go_upto_region 4 with fail
  generalize W1.alloc (.cells #[.int .i64 2, .int .i64 2, .int .i64 0] 23) = W at *
  rw [← hG'] at tS ⊢
  clear hG'
  have g0 : W.cell? ⟨G, 0, .none⟩ = some (.int .i64 2) := rowCells tS 0
  have g1 : W.cell? ⟨G, 1, .none⟩ = some (.int .i64 2) := rowCells tS 1
  have g2 : W.cell? ⟨G, 2, .none⟩ = some (.int .i64 0) := rowCells tS 2
  have uW := (bS.block H (Array.getElem?_eq_some_iff.1 u1).1).trans u1
  have hBW : Below w.heap.size w W := hB1.trans (bS.mono hB1.size)
  clear bS tS u1 hB1
  have lH : H < W.heap.size := (Array.getElem?_eq_some_iff.1 uW).1
  have hop : Hid (∀ X, Below W.heap.size W X → X.cell? ⟨H, 0, .none⟩ = some (.int .i64 k) ∧ X.cell? ⟨H, 1, .none⟩ = some (.int .i64 a) ∧ X.cell? ⟨H, 2, .none⟩ = some (.int .i64 n)) := Lib.hid fun X hb => ⟨keepF hb _ _ _ (rowCells uW 0), keepF hb _ _ _ (rowCells uW 1), keepF hb _ _ _ (rowCells uW 2)⟩
  have hfn : Hid (∀ X, Below W.heap.size W X → Below w.heap.size w X) := Lib.hid fun X hb => hBW.trans (hb.mono hBW.size)
  clear uW hBW
  go_wp2_with fail
  refine (hnw.out W).mono ?_
  rintro r W2 ⟨jb, s, pb, rfl, hb2, hj2⟩
  go_upto_region 7 with fail
  have hst0 : StA W (W2.alloc fiC) jb s pb W2.heap.size [] := by
    have hbA := (Below.refl W2.heap.size W2).alloc (Nat.le_refl _) fiC
    refine ⟨.slice none 0 0, hj2.below hbA, hb2.trans (hbA.mono hb2.size), heap_alloc_new W2 _, Nat.ne_of_gt hj2.lt, Nat.ne_of_gt hj2.plt, Nat.ne_of_gt ?_, by simp [Value.ownBlock]⟩
    exact (Array.getElem?_eq_some_iff.1 hj2.model.head).1
  clear hj2 hb2
  go_upto_region 8 with fail
  generalize W2.alloc fiC = X0 at *
  generalize W2.heap.size = K at *
  have hr0 := Lib.hid (hst0.hear ⟨0, 0, 0, 0, 0, 0, 0, 0⟩ (by unfold Ev.fit; simp) (by simp))
  unfold Ev.val Ev.cells at hr0
  clear hst0
  go_wp2_with fail
  refine hr0.out.mono ?_
  rintro r X1 ⟨rfl, hst1⟩
  have hr1 := Lib.hid (hst1.hear ⟨0, 1, 0, 0, 0, 0, 0, 0⟩ (by unfold Ev.fit; simp) (by simp))
  unfold Ev.val Ev.cells at hr1
  clear hst1 hr0
  go_wp2_with fail
  refine hr1.out.mono ?_
  rintro r X2 ⟨rfl, hst2⟩
  clear hr1
  generalize hearB _ _ = bq
  go_upto_if 29 with fail
  go_cut [30] (fun _ wx => StA W wx jb s pb K (ansL blk))
  case first =>
    cases blk with
    | false =>
      go_wp2
      go_meet
      exact hst2
    | true =>
      have z0 := hst2.k0
      have z1 := hst2.k1
      have z2 := hst2.k2
      have hr0 := Lib.hid (hst2.hear ⟨2, 1, 1, 0, 8, 0, 0, 0⟩ (by unfold Ev.fit; simp) (by simp))
      unfold Ev.val Ev.cells at hr0
      clear hst2
      go_wp2_with fail
      refine hr0.out.mono ?_
      rintro r X3 ⟨rfl, hst3⟩
      have hr1 := Lib.hid (hst3.hear ⟨3, 1, 0, 0, 0, 16, 8, 0⟩ (by unfold Ev.fit; simp) (by simp))
      unfold Ev.val Ev.cells at hr1
      have z0 := hst3.k0
      have z1 := hst3.k1
      have z2 := hst3.k2
      clear hst3 hr0
      go_wp2_with fail
      refine hr1.out.mono ?_
      rintro r X4 ⟨rfl, hst4⟩
      have hr2 := Lib.hid (hst4.hear ⟨5, 1, 1, 0, 8, 16, 0, 0⟩ (by unfold Ev.fit; simp) (by simp))
      unfold Ev.val Ev.cells at hr2
      have z0 := hst4.k0
      have z1 := hst4.k1
      have z2 := hst4.k2
      clear hst4 hr1
      go_wp2_with fail
      refine hr2.out.mono ?_
      rintro r X5 ⟨rfl, hst5⟩
      clear hr2
      generalize hearB _ _ = bq2
      go_wp2
      go_meet
      exact hst5
  case rest =>
    clear hst2
    obtain ⟨X3, rfl⟩ : ∃ V : World, V = wc := ⟨_, rfl⟩
    have hll : (ansL blk).length ≤ 5 := by cases blk <;> simp [ansL]
    obtain ⟨o0, o1, o2⟩ := hop.out _ hcut.bel
    have hb3 := hfn.out _ hcut.bel
    have hbg := ans_begins blk k a n
    have hr0 := Lib.hid (hcut.hear (askE k a n) (by unfold askE Ev.fit; simp) (by omega))
    rw [hbg] at hr0
    unfold askE Ev.val Ev.cells at hr0
    clear hcut
    go_wp2_with fail
    refine hr0.out.mono ?_
    rintro r X4 ⟨rfl, hst⟩
    have q0 : X4.cell? ⟨H, 0, .none⟩ = some (.int .i64 k) := (hop.out _ hst.bel).1
    have q1 : X4.cell? ⟨H, 1, .none⟩ = some (.int .i64 a) := (hop.out _ hst.bel).2.1
    have q2 : X4.cell? ⟨H, 2, .none⟩ = some (.int .i64 n) := (hop.out _ hst.bel).2.2
    have hb4 := hfn.out _ hst.bel
    have lX : H < X4.heap.size := Nat.lt_of_lt_of_le lH hst.bel.size
    have hansw := fun h1 h2 e => ans_says blk k a n e h1 h2
    have hhear : Hid (∀ E, Calls Try.prog 10 #[.pointer (some ⟨jb, 0, .none⟩), (ansE k a n E).val] X4 fun r w' => r = .returned (.bool (hearB (runJ (newJ 2 2 0) (ansL blk ++ [askE k a n])) (ansE k a n E))) ∧ Below w.heap.size w w') := Lib.hid fun E =>
      (hst.hear (ansE k a n E) (by unfold ansE Ev.fit; simp) (by simp; omega)).mono fun r w' ⟨e1, h1⟩ => ⟨e1, hfn.out _ h1.bel⟩
    unfold ansE Ev.val Ev.cells at hhear
    clear hr0 hbg hst hop hfn o0 o1 o2 hb3
    by_cases hk : 1 ≤ k ∧ k ≤ 4
    case neg =>
      clear hhear hansw
      have hbk : (decide (1 ≤ k) && decide (k ≤ 4)) = false := by
        rw [Bool.eq_false_iff]; intro h; simp at h; exact hk h
      rw [hbk]
      clear hbk
      have hc : k < 1 ∨ (1 ≤ k ∧ 4 < k) := by omega
      clear hk
      rcases hc with hc | ⟨hc, hc2⟩
      · go_wp2
        go_ret
        exact ⟨rfl, hb4⟩
      · go_wp2
        go_ret
        exact ⟨rfl, hb4⟩
    case pos =>
      have hbk : (decide (1 ≤ k) && decide (k ≤ 4)) = true := by simp [hk.1, hk.2]
      rw [hbk]
      clear hbk
      have hsay : Hid (∀ E, Calls Try.prog 10 #[.pointer (some ⟨jb, 0, .none⟩), .agg #[.int .i64 5, .int .i64 0, .int .i64 k, .int .i64 a, .int .i64 n, .int .i64 0, .int .i64 0, .int .i64 E]] X4 fun r w' => r = .returned (.bool (wantB (blk && a == 16) k n E)) ∧ Below w.heap.size w w') := Lib.hid fun E => by
        have h1 := hhear.out E
        have h2 := hansw hk.1 hk.2 E
        unfold ansE at h2
        rw [h2] at h1
        exact h1
      clear hhear hansw
      obtain ⟨E, wt, hE⟩ : ∃ E, err.tmod 9 = E ∧ 0 ≤ E ∧ E < 9 := ⟨err % 9, by rw [Int.tmod_eq_emod_of_nonneg he.1], by omega, by omega⟩
      have wu : IntKind.u8.wrap E = E := by rw [IntKind.wrap, if_neg (by simp [IntKind.signed])]; simp [IntKind.bits]; omega
      have wi : IntKind.i64.wrap E = E := IntWalk.i64_in _ ⟨by omega, by omega⟩
      go_upto_region 17 with fail
      go_wp2_with fail
      refine (hln.out _).mono ?_
      rintro r W9 ⟨rfl, hw⟩
      obtain rfl := hw.symm
      clear hw
      unfold wantB at hsay
      generalize lenB n = lb at *
      generalize lenV n = lv at *
      clear hln hnw haw
      go_upto_region 18 with fail
      go_cut [13] (fun v wx => v = .bool (blk && a == 16) ∧ wx = X4)
      case first =>
        cases blk with
        | false =>
          go_wp2
          go_meet
          exact ⟨rfl, rfl⟩
        | true =>
          go_wp2
          go_meet
          refine ⟨?_, rfl⟩
          simp
      case rest =>
        obtain ⟨rfl, rfl⟩ := hcut
        generalize (blk && a == 16) = th at *
        have hkk : k = 1 ∨ k = 2 ∨ k = 3 ∨ k = 4 := by omega
        have hEE : E = 0 ∨ E = 1 ∨ E = 3 ∨ E = 4 ∨ E = 5 ∨ ((E == 0) = false ∧ (E == 1) = false ∧ (E == 3) = false ∧ (E == 4) = false ∧ (E == 5) = false) := by
          simp only [beq_eq_false_iff_ne]; omega
        have hs := hsay.out E
        clear hsay hE hk wt wu wi
        rcases hkk with rfl | rfl | rfl | rfl
        all_goals rcases hEE with rfl | rfl | rfl | rfl | rfl | ⟨e0, e1, e3, e4, e5⟩
        all_goals cases th
        all_goals (simp only [*, Int.reduceEq, Int.reduceBEq, if_true, if_false, Bool.false_or, Bool.true_or, Bool.or_false, Bool.or_true, Bool.false_and, Bool.true_and, Bool.and_false, Bool.and_true, Bool.not_true, Bool.not_false] at hs; replace hs := Lib.hid hs)
        all_goals (go_wp2_with fail; refine hs.out.mono ?_; rintro r W9 ⟨rfl, hf⟩; go_wp2; go_ret)
        all_goals first
          | exact ⟨rfl, hf⟩
          | exact ⟨ret_bool (by cases lb <;> rfl), hf⟩
          | (trace_state; sorry)
end Go.Proofs.Ytclidckjnoafcaa

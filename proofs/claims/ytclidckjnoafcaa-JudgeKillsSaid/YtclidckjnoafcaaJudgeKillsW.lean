/- The law JudgeKills: the walk of kills. -/
import Derived.Test.YtclidckjnoafcaaJudA

import Derived.Test.YtclidckjnoafcaaJudKilP

import Derived.Deep.CutBlock

namespace Go.Proofs.Ytclidckjnoafcaa

open Go.RowKit

attribute [local go_sem ↓] Go.wp_at_zero Go.wp_at_succ

set_option maxRecDepth 100000 in
set_option maxHeartbeats 4000000 in
theorem kills_any (p c m at0 who : Int) (es : List Ev) (v : Value) (w : World) (h1 : 0 ≤ at0 ∧ at0 < 256) (h2 : 0 ≤ who ∧ who < 256) (hr : RdE w v es) (hf : fitE es) :
    Calls Try.prog 12 #[.agg #[.int .i64 p, .int .i64 c, .int .i64 m], v, .int .i64 at0, .int .i64 who] w fun e w' => e = .returned (.bool true) ∧ Below w.heap.size w w' := by
  obtain ⟨ao, cap, rfl, hcap, hcm, hrow⟩ := hr.nth
  obtain ⟨n, hn, hn'⟩ : ∃ n, Hid (n = es.length) ∧ n = es.length := ⟨_, Lib.hid rfl, rfl⟩
  rw [← hn'] at hcap
  have haw := Lib.hid (fun X => awake7_any X)
  have hmay := Lib.hid (fun X => refMay_any p c m X)
  have hnw := Lib.hid (fun X => jnew_any p c m X)
  replace hrow := Lib.hid hrow
  replace hr := Lib.hid hr
  replace hf := Lib.hid hf
  have hnil : ∀ W a, (binOp .eql 32 (.pointer (some a)) (.pointer none)).run Try.prog W = .ok (.bool false) W := fun W a => by kernel_rfl
  have hnil2 : ∀ W a, (binOp .eql 44 (.pointer (some a)) (.pointer none)).run Try.prog W = .ok (.bool false) W := fun W a => by kernel_rfl
  obtain ⟨t1, t2⟩ : (w.alloc (.cells #[.int .i64 p, .int .i64 c, .int .i64 m] 23)).heap[w.heap.size]? = some (.cells #[.int .i64 p, .int .i64 c, .int .i64 m] 23 (0, 0)) ∧ Below w.heap.size w (w.alloc (.cells #[.int .i64 p, .int .i64 c, .int .i64 m] 23)) := ⟨heap_alloc_new w _, (Below.refl w.heap.size w).alloc (Nat.le_refl _) _⟩
  obtain ⟨H, hH, hH'⟩ : ∃ H, Hid (H = w.heap.size) ∧ H = w.heap.size := ⟨_, Lib.hid rfl, rfl⟩
  rw [← hn']
  go_enter Try.func12, Try.ntmps12
  go_upto_region 1 with fail
  generalize w.alloc (.cells #[.int .i64 p, .int .i64 c, .int .i64 m] 23) = W0 at *
  rw [← hH'] at t1 ⊢
  clear hH'
  have c0 : W0.cell? ⟨H, 0, .none⟩ = some (.int .i64 p) := rowCells t1 0
  have c1 : W0.cell? ⟨H, 1, .none⟩ = some (.int .i64 c) := rowCells t1 1
  have c2 : W0.cell? ⟨H, 2, .none⟩ = some (.int .i64 m) := rowCells t1 2
  have lH : H < W0.heap.size := (Array.getElem?_eq_some_iff.1 t1).1
  have hn2 := Lib.hid hn'
  clear hn' t1
  have hfn : Hid (∀ X, Below W0.heap.size W0 X → Below w.heap.size w X) := Lib.hid fun X hb => t2.trans (hb.mono t2.size)
  clear t2
  by_cases h200 : n ≤ 200
  case neg =>
    have e1 : decide ((n : Int) > 200) = true := by simp; omega
    clear hmay hnw
    go_wp2_with fail
    refine (haw.out W0).mono ?_
    rintro r W1 ⟨rfl, hb1⟩
    have hb1 := hfn.out _ hb1
    go_wp2
    go_ret
    exact ⟨rfl, hb1⟩
  case pos =>
    have e1 : decide ((n : Int) > 200) = false := by simp; omega
    go_wp2_with fail
    refine (hmay.out W0).mono ?_
    rintro r W1 ⟨rfl, hW1⟩
    have bA := (Below.refl W0.heap.size W0).alloc (Nat.le_refl _) (.cells #[.int .i64 p, .int .i64 c, .int .i64 m] 23)
    rw [← hW1] at bA
    clear hW1
    have d0 : W1.cell? ⟨H, 0, .none⟩ = some (.int .i64 p) := keepF bA _ _ _ c0
    have d1 : W1.cell? ⟨H, 1, .none⟩ = some (.int .i64 c) := keepF bA _ _ _ c1
    have d2 : W1.cell? ⟨H, 2, .none⟩ = some (.int .i64 m) := keepF bA _ _ _ c2
    have lH1 : H < W1.heap.size := Nat.lt_of_lt_of_le lH bA.size
    have hfn1 : Hid (∀ X, Below W1.heap.size W1 X → Below w.heap.size w X) := Lib.hid fun X hb => hfn.out _ (bA.trans (hb.mono bA.size))
    clear c0 c1 c2 lH bA hfn
    have hxx : Hid ((mayB p c m = false) ∨ mayB p c m = true) := Lib.hid (by cases mayB p c m <;> simp)
    rcases hxx.out with hm | hm
    · rw [hm]
      clear hnw hxx hm
      go_wp2_with fail
      refine (haw.out W1).mono ?_
      rintro r W2 ⟨rfl, hb1⟩
      have hb1 := hfn1.out _ hb1
      go_wp2
      go_ret
      exact ⟨rfl, hb1⟩
    · have hbd := mayB_iff.1 hm
      rw [hm]
      replace hm := Lib.hid hm
      clear hxx
      by_cases h0 : n = 0
      · have e2 : ((n : Int) == 0) = true := by simp; omega
        clear hnw
        replace h0 := Lib.hid h0
        go_wp2_with fail
        refine (haw.out W1).mono ?_
        rintro r W2 ⟨rfl, hb1⟩
        have hb1 := hfn1.out _ hb1
        go_wp2
        go_ret
        exact ⟨rfl, hb1⟩
      · have e2 : ((n : Int) == 0) = false := by simp; omega
        go_upto_region 3 with fail
        have wn : IntKind.i64.wrap ((n : Int) + 1) = (n : Int) + 1 := IntWalk.i64_in _ ⟨by omega, by omega⟩
        have hne : (n : Int) + 1 ≠ 0 := by omega
        have hce : c ≠ 0 := by omega
        obtain ⟨k, hk, hk'⟩ : ∃ k : Nat, k ≤ n ∧ at0.tmod ((n : Int) + 1) = (k : Int) := by
          refine ⟨(at0 % ((n : Int) + 1)).toNat, ?_, ?_⟩
          · have := Int.emod_lt_of_pos at0 (b := (n : Int) + 1) (by omega)
            omega
          · rw [Int.tmod_eq_emod_of_nonneg h1.1, Int.toNat_of_nonneg (Int.emod_nonneg _ hne)]
        obtain ⟨ci, hci, hci'⟩ : ∃ k : Nat, (k : Int) < c ∧ who.tmod c = (k : Int) := by
          have hb := Int.emod_lt_of_pos who (b := c) (by omega)
          have hc0 := Int.emod_nonneg who hce
          exact ⟨(who % c).toNat, by omega, by rw [Int.tmod_eq_emod_of_nonneg h2.1]; omega⟩
        have wk : IntKind.i64.wrap (k : Int) = (k : Int) := IntWalk.i64_in _ ⟨by omega, by omega⟩
        have wc : IntKind.i64.wrap (ci : Int) = (ci : Int) := IntWalk.i64_in _ ⟨by omega, by omega⟩
        go_quiet (fail)
        have hq : Below W1.heap.size W1 (W1.drewN nq) := below_drewN (Below.refl _ _) nq
        generalize W1.drewN nq = W at *
        have f0 : W.cell? ⟨H, 0, .none⟩ = some (.int .i64 p) := keepF hq _ _ _ d0
        have f1 : W.cell? ⟨H, 1, .none⟩ = some (.int .i64 c) := keepF hq _ _ _ d1
        have f2 : W.cell? ⟨H, 2, .none⟩ = some (.int .i64 m) := keepF hq _ _ _ d2
        have hfW : Hid (∀ X, Below W.heap.size W X → Below w.heap.size w X) := Lib.hid fun X hb => hfn1.out _ (hq.trans (hb.mono hq.size))
        have lH : H < W.heap.size := Nat.lt_of_lt_of_le lH1 hq.size
        clear hfn1 hq d0 d1 d2 lH1 hmay hne hce wn hk' hci' e1 e2
        go_wp2_with fail
        refine (hnw.out W).mono ?_
        rintro r W2 ⟨jb, s, pb, rfl, hb2, hj2⟩
        have j0 := hj2.h0
        clear hnw
        go_wp2_with fail
        refine (haw.out W2).mono ?_
        rintro r W3 ⟨rfl, hb3⟩
        replace hj2 := hj2.below hb3
        replace hb2 := hb2.trans (hb3.mono hb2.size)
        clear hb3 j0
        have hwhy : Hid (∀ i, i ≤ es.length → (0 ≤ (runJ (newJ p c m) (es.take i)).m ∧ (runJ (newJ p c m) (es.take i)).m ≤ 1000000) ∧ (runJ (newJ p c m) (es.take i)).ps.length ≤ 100) := Lib.hid fun i hi => run_small p c m _ (by rw [List.length_take]; have := hn.out; omega)
        have hev : Hid (∀ i, i < n → ∃ b off e, ao = some ⟨b, off, .none⟩ ∧ es[i]? = some e ∧ e.fit ∧ b < w.heap.size ∧ ∀ X, Below w.heap.size w X → ∀ j, j < 8 → X.cell? ⟨b, off + i * 8 + j, .none⟩ = e.cells.toList[j]?) := Lib.hid fun i hi => by
          have hil : i < es.length := hn.out ▸ hi
          obtain ⟨b, off, hao, hb, hcc⟩ := hrow.out (fun e => by rw [e] at hil; simp at hil)
          exact ⟨b, off, es[i], hao, List.getElem?_eq_getElem hil, hf.out _ (List.getElem_mem hil), hb, fun X hX j hj => by
            have e1 := hcc i hil j hj
            have e2 : j < es[i].cells.toList.length := hj
            rw [List.getElem?_eq_getElem e2] at e1 ⊢
            exact keepF hX _ _ _ e1⟩
        have hnx : Hid (∀ i e, es[i]? = some e → es.take (i + 1) = es.take i ++ [e]) := Lib.hid fun i e he => by
          obtain ⟨h3, h4⟩ := List.getElem?_eq_some_iff.1 he
          rw [List.take_add_one, he]; rfl
        clear hrow hr hf f0 f1 f2 lH
        obtain ⟨B, hB⟩ : ∃ B, B = W.heap.size := ⟨_, rfl⟩
        rw [← hB] at hj2
        have hBl : W.heap.size ≤ B := by omega
        clear hB
        obtain ⟨V, rfl⟩ : ∃ V : World, V = W3 := ⟨_, rfl⟩
        go_wp2_with fail
        go_loopw [12] (fun vi wr => ∃ (i : Nat) (sl : Value), i ≤ k ∧ vi = .int .i64 i ∧ JgA B wr jb s pb sl (runJ (newJ p c m) (es.take i)) ∧ allIn (newJ p c m) (es.take i) ∧ Below W.heap.size W wr) (fun vi _ => k - (intOf vi).toNat)
        case atStart => exact ⟨0, _, Nat.zero_le _, rfl, hj2, allIn_nil _, hb2⟩
        case round =>
          obtain ⟨i, sl, hi, rfl, hj, hal, hbr⟩ := hrel
          obtain ⟨Y, rfl⟩ : ∃ V : World, V = wr := ⟨_, rfl⟩
          by_cases hlt : i < k
          · have hlt' : (i : Int) < (k : Int) := by omega
            have hi0 : (0 : Int) ≤ (i : Int) := by omega
            have hin : i < n := by omega
            have wi1 : IntKind.i64.wrap ((i : Int) + 1) = (i : Int) + 1 := IntWalk.i64_in _ ⟨by omega, by omega⟩
            obtain ⟨b, off, e, rfl, he, hef, hbw, hcc⟩ := hev.out i hin
            have hY := hfW.out _ hbr
            have x0 : Y.cell? ⟨b, off + i * 8, .none⟩ = some (.int .i64 e.k) := hcc Y hY 0 (by omega)
            have x1 : Y.cell? ⟨b, off + i * 8 + 1, .none⟩ = some (.int .i64 e.c) := hcc Y hY 1 (by omega)
            have x2 : Y.cell? ⟨b, off + i * 8 + 2, .none⟩ = some (.int .i64 e.ok) := hcc Y hY 2 (by omega)
            have x3 : Y.cell? ⟨b, off + i * 8 + 3, .none⟩ = some (.int .i64 e.oa) := hcc Y hY 3 (by omega)
            have x4 : Y.cell? ⟨b, off + i * 8 + 4, .none⟩ = some (.int .i64 e.on) := hcc Y hY 4 (by omega)
            have x5 : Y.cell? ⟨b, off + i * 8 + 5, .none⟩ = some (.int .i64 e.at') := hcc Y hY 5 (by omega)
            have x6 : Y.cell? ⟨b, off + i * 8 + 6, .none⟩ = some (.int .i64 e.n) := hcc Y hY 6 (by omega)
            have x7 : Y.cell? ⟨b, off + i * 8 + 7, .none⟩ = some (.int .i64 e.er) := hcc Y hY 7 (by omega)
            obtain ⟨sm1, sm2⟩ := hwhy.out i (by have := hn.out; omega)
            have hhr := hear_any hj e hef sm1 sm2
            unfold Ev.val Ev.cells at hhr
            have hne := hnx.out i e he
            have hfin : Hid (∀ w', Left B Y w' jb s pb sl (hearJ (runJ (newJ p c m) (es.take i)) e) → Below W.heap.size W w' ∧ ∃ sl, JgA B w' jb s pb sl (runJ (newJ p c m) (es.take (i + 1)))) := Lib.hid fun w' hL => by
              obtain ⟨⟨sl', hj', _⟩, ho⟩ := hL
              rw [hne, runJ_snoc]
              exact ⟨hbr.trans (ho.below hbr.size fun k hk => Nat.le_trans hBl (footJ_base hj k hk)), sl', hj'⟩
            have hal1 : Hid (hearB (runJ (newJ p c m) (es.take i)) e = true → allIn (newJ p c m) (es.take (i + 1))) := Lib.hid fun h => by rw [hne]; exact hal.next h
            replace hhr := Lib.hid hhr
            clear hcc he hef hne hj hal sm1 sm2 hbr hwhy hnx hev
            generalize hearB (runJ (newJ p c m) (es.take i)) e = hb at *
            go_wp2_with (go_at_call 10; refine hhr.out.mono ?_; rintro r w4 ⟨rfl, hL⟩)
            case roundEnd =>
              obtain ⟨g1, sl', g2⟩ := hfin.out _ hL
              exact ⟨⟨i + 1, sl', by omega, by go_num, g2, hal1.out (by simp_all), g1⟩, by simp [intOf]; omega⟩
            go_ret
            exact ⟨rfl, hfW.out _ (hfin.out _ hL).1⟩
          · have hik : i = k := by omega
            subst hik
            have hbY := hfW.out _ hbr
            clear hlt hi hj2 hb2
            go_wp2_with fail
            go_loopw [13, 14] (fun v13 v14 wr => ∃ t : Nat, t ≤ i ∧ v13 = .bool (livesL ci (es.take t)) ∧ v14 = .int .i64 t ∧ wr = Y) (fun _ v14 _ => i - (intOf v14).toNat)
            case atStart => exact ⟨0, Nat.zero_le _, rfl, rfl, by first | rfl | trivial⟩
            case round =>
              obtain ⟨t, ht, rfl, rfl, hwr⟩ := hrel
              obtain rfl := hwr.symm
              by_cases hlt : t < i
              · have hlt' : (t : Int) < (i : Int) := by omega
                have ht0 : (0 : Int) ≤ (t : Int) := by omega
                have htn : t < n := by omega
                have wt1 : IntKind.i64.wrap ((t : Int) + 1) = (t : Int) + 1 := IntWalk.i64_in _ ⟨by omega, by omega⟩
                obtain ⟨b, off, e, rfl, he, hef, hbw, hcc⟩ := hev.out t htn
                have x0 : Y.cell? ⟨b, off + t * 8, .none⟩ = some (.int .i64 e.k) := hcc Y hbY 0 (by omega)
                have x1 : Y.cell? ⟨b, off + t * 8 + 1, .none⟩ = some (.int .i64 e.c) := hcc Y hbY 1 (by omega)
                have hls : livesL ci (es.take (t + 1)) = if e.c = ci ∧ e.k = 0 then true else if e.c = ci ∧ e.k = 1 then false else livesL ci (es.take t) := by
                  rw [hnx.out t e he, livesL_snoc]
                have hfin : Hid (∀ bb, bb = livesL ci (es.take (t + 1)) → (∃ t' : Nat, t' ≤ i ∧ Value.bool bb = .bool (livesL ci (es.take t')) ∧ Value.int .i64 ((t : Int) + 1) = .int .i64 t' ∧ True) ∧ i - (intOf (Value.int .i64 ((t : Int) + 1))).toNat < i - (intOf (Value.int .i64 (t : Int))).toNat) := Lib.hid fun bb hbb => by
                  exact ⟨⟨t + 1, by omega, by rw [hbb], by go_num, trivial⟩, by simp [intOf]; omega⟩
                generalize livesL ci (es.take (t + 1)) = bn at *
                generalize livesL ci (es.take t) = bo at *
                clear hcc he hef hwhy hnx hev hj hal hbr
                by_cases hc : e.c = ci
                · have gc : (e.c == (ci : Int)) = true := by simpa using hc
                  by_cases k0 : e.k = 0
                  · have g0 : (e.k == 0) = true := by simpa using k0
                    have g1 : (e.k == 1) = false := by simp [k0]
                    rw [if_pos ⟨hc, k0⟩] at hls
                    clear hc k0
                    go_wp2
                    exact hfin.out _ hls.symm
                  · have g0 : (e.k == 0) = false := by simpa using k0
                    rw [if_neg (fun h => k0 h.2)] at hls
                    by_cases k1 : e.k = 1
                    · have g1 : (e.k == 1) = true := by simpa using k1
                      rw [if_pos ⟨hc, k1⟩] at hls
                      clear hc k0 k1
                      go_wp2
                      exact hfin.out _ hls.symm
                    · have g1 : (e.k == 1) = false := by simpa using k1
                      rw [if_neg (fun h => k1 h.2)] at hls
                      clear hc k0 k1
                      go_wp2
                      exact hfin.out _ hls.symm
                · have gc : (e.c == (ci : Int)) = false := by simpa using hc
                  rw [if_neg (fun h => hc h.1), if_neg (fun h => hc h.1)] at hls
                  clear hc
                  go_wp2
                  exact hfin.out _ hls.symm
              · have hti : t = i := by omega
                subst hti
                have hus := Lib.hid (used_any hj.model)
                have j0 := hj.h0
                go_wp2_with fail
                refine hus.out.mono ?_
                rintro r Z ⟨rfl, hbZ⟩
                have hjZ := hj.below hbZ
                have hbZ2 := hbr.trans (hbZ.mono hbr.size)
                have hbZ3 := hfW.out _ hbZ2
                clear hus j0 hj hbr hbY hbZ hwr hwhy
                have hct : Hid (∀ (q : Nat) (e : Ev), es[q]? = some e → tookL ci (es.take (q + 1)) = if e.c = (ci : Int) then decide (e.k = 3) else tookL ci (es.take q)) := Lib.hid fun q e he => by rw [hnx.out q e he, tookL_snoc]
                have wt0 : IntKind.i64.wrap ((t : Int) - 1) = (t : Int) - 1 := IntWalk.i64_in _ ⟨by omega, by omega⟩
                obtain ⟨tk, htk⟩ : ∃ tk, Hid (tk = tookL ci (es.take t)) := ⟨_, Lib.hid rfl⟩
                have hcell : Hid (∀ q : Nat, q < t → ∃ b off e, ao = some ⟨b, off, .none⟩ ∧ es[q]? = some e ∧ b < w.heap.size ∧ Z.cell? ⟨b, off + q * 8, .none⟩ = some (.int .i64 e.k) ∧ Z.cell? ⟨b, off + q * 8 + 1, .none⟩ = some (.int .i64 e.c)) := Lib.hid fun q hq => by
                  obtain ⟨b, off, e, h3, h4, _, h5, h6⟩ := hev.out q (by omega)
                  exact ⟨b, off, e, h3, h4, h5, h6 Z hbZ3 0 (by omega), h6 Z hbZ3 1 (by omega)⟩
                clear hev
                go_upto_region 21 with fail
                go_cut [16] (fun v wx => wx = Z ∧ ∃ b, v = .bool b ∧ (b = true → tk = true))
                case first =>
                  by_cases ht0 : t = 0
                  · have e1 : decide ((t : Int) > 0) = false := by simp; omega
                    have e2 : (0 < t) = False := by simp; omega
                    replace ht0 := Lib.hid ht0
                    go_wp2
                    go_meet
                    exact ⟨rfl, _, rfl, fun e => by simp at e⟩
                  · have e1 : decide ((t : Int) > 0) = true := by simp; omega
                    have e2 : (0 < t) = True := by simp; omega
                    obtain ⟨t1, hv1⟩ : ∃ t1 : Nat, t = t1 + 1 := ⟨t - 1, by omega⟩
                    have wt1 : IntKind.i64.wrap ((t : Int) - 1) = (t1 : Int) := by rw [wt0]; omega
                    have hi0 : (0 : Int) ≤ (t1 : Int) := by omega
                    have hin : t1 < n := by omega
                    obtain ⟨b, off, e, rfl, he, hbw, x0, x1⟩ := hcell.out t1 (by omega)
                    have hx := hct.out t1 e he
                    rw [← hv1, ← htk.out] at hx
                    replace hx := Lib.hid hx
                    replace hv1 := Lib.hid hv1
                    have lZ : b < Z.heap.size := Nat.lt_of_lt_of_le hbw hbZ3.size
                    clear he hcell hct ht0 wt0
                    by_cases hc : e.c = ci
                    · have gc : (e.c == (ci : Int)) = true := by simpa using hc
                      have hx2 := hx.out
                      rw [if_pos hc] at hx2
                      replace hx2 := Lib.hid hx2
                      clear hc
                      go_wp2
                      go_meet
                      exact ⟨rfl, _, rfl, fun e => by rw [hx2.out]; simpa using e⟩
                    · have gc : (e.c == (ci : Int)) = false := by simpa using hc
                      clear hc
                      go_wp2
                      go_meet
                      exact ⟨rfl, _, rfl, fun e => by simp at e⟩
                case rest =>
                  obtain ⟨hwz, b0, rfl, hb0⟩ := hcut
                  obtain rfl := hwz.symm
                  replace hb0 := Lib.hid hb0
                  go_upto_block 4 with fail
                  go_cut [16] (fun v wx => v = .bool tk ∧ wx = Z)
                  case first =>
                    clear hal hjZ hbZ2
                    go_wp2_with fail
                    go_loopw [16, 17] (fun v16 v17 wr => ∃ (x : Int) (b : Bool), -1 ≤ x ∧ x < t ∧ v17 = .int .i64 x ∧ v16 = .bool b ∧ wr = Z ∧ (b = true → tk = true) ∧ (b = false → tk = tookL ci (es.take (x + 1).toNat))) (fun _ v17 _ => (intOf v17 + 1).toNat)
                    case atStart => exact ⟨(t : Int) - 1, b0, by omega, by omega, rfl, rfl, by first | rfl | trivial, hb0.out, fun _ => by rw [htk.out]; congr 2; omega⟩
                    case round =>
                      obtain ⟨x, b1, hx1, hx2, rfl, rfl, hwr, hy1, hy2⟩ := hrel
                      obtain rfl := hwr.symm
                      replace hy1 := Lib.hid hy1
                      replace hy2 := Lib.hid hy2
                      by_cases hx0 : x < 0
                      · have hxm : x = -1 := by omega
                        have hbt : Hid (b1 = tk) := Lib.hid (by
                          cases b1 with
                          | true => exact (hy1.out rfl).symm
                          | false => rw [hy2.out rfl, hxm]; rfl)
                        subst hxm
                        clear hy1 hy2
                        go_wp2
                        go_meet
                        exact ⟨by rw [hbt.out], rfl⟩
                      · obtain ⟨q, rfl⟩ : ∃ q : Nat, x = q := ⟨x.toNat, by omega⟩
                        have g0 : (0 : Int) ≤ (q : Int) := by omega
                        have g1 : decide ((q : Int) ≥ 0) = true := by simp
                        cases b1 with
                        | true =>
                          go_wp2
                          go_meet
                          exact ⟨by rw [hy1.out (by first | rfl | trivial)], rfl⟩
                        | false =>
                          have wq : IntKind.i64.wrap ((q : Int) - 1) = (q : Int) - 1 := IntWalk.i64_in _ ⟨by omega, by omega⟩
                          have hqn : q < n := by omega
                          obtain ⟨b, off, e, rfl, he, hbw, x0, x1⟩ := hcell.out q (by omega)
                          have hx := hct.out q e he
                          have hy := hy2.out rfl
                          rw [show ((q : Int) + 1).toNat = q + 1 by omega, hx] at hy
                          replace hy := Lib.hid hy
                          have lZ : b < Z.heap.size := Nat.lt_of_lt_of_le hbw hbZ3.size
                          clear he hx hcell hct wt0 hy1 hy2 hb0 htk
                          by_cases hc : e.c = ci
                          · have gc : (e.c == (ci : Int)) = true := by simpa using hc
                            have hy3 := hy.out
                            rw [if_pos hc] at hy3
                            replace hy3 := Lib.hid hy3
                            clear hc
                            go_wp2
                            go_meet
                            exact ⟨by rw [hy3.out]; rfl, rfl⟩
                          · have gc : (e.c == (ci : Int)) = false := by simpa using hc
                            have hy3 := hy.out
                            rw [if_neg hc] at hy3
                            replace hy3 := Lib.hid hy3
                            clear hc hy
                            go_wp2
                            exact ⟨⟨(q : Int) - 1, false, by omega, by omega, rfl, rfl, (by first | rfl | trivial), (fun e => (by cases e)), fun _ => (by rw [hy3.out, show ((q : Int) - 1 + 1).toNat = q by omega])⟩, by first | (simp [intOf]; done) | (simp [intOf]; omega)⟩
                  case rest =>
                    obtain ⟨rfl, hwz⟩ := hcut
                    obtain rfl := hwz.symm
                    have hlen : (newJ p c m).ps.length = c.toNat := by unfold newJ; rw [if_pos hm.out]; simp
                    obtain ⟨k1, k2⟩ := kill_law p c m (es.take t) ci (by rw [hlen]; omega) hal
                    rw [← htk.out] at k1
                    obtain ⟨sm1, sm2⟩ := run_small p c m (es.take t) (by rw [List.length_take]; omega)
                    have hhr := hear_any hjZ (killE ci) (by unfold killE Ev.fit; simp) sm1 sm2
                    have hjl : (hearJ (runJ (newJ p c m) (es.take t)) (killE ci)).ps.length = c.toNat := by rw [hear_length, runJ_length, hlen]
                    have hsm2 : (0 ≤ (hearJ (runJ (newJ p c m) (es.take t)) (killE ci)).m ∧ (hearJ (runJ (newJ p c m) (es.take t)) (killE ci)).m ≤ 1000000) := by
                      have := (run_small p c m (es.take t ++ [killE ci]) (by rw [List.length_append, List.length_take]; simp; omega)).1
                      rwa [runJ_snoc] at this
                    generalize livesL (ci : Int) (es.take t) = lv at *
                    generalize hearB (runJ (newJ p c m) (es.take t)) (killE ci) = hb at *
                    generalize hearJ (runJ (newJ p c m) (es.take t)) (killE ci) = J2 at *
                    generalize runJ (newJ p c m) (es.take t) = J at *
                    have hpend : Hid (hb = true → (pendP J2.ps ci).asks = false) := Lib.hid fun h => by
                      unfold pendP
                      rw [if_neg (by rw [hjl]; omega), Int.toNat_natCast]
                      exact (k2 h).2.1
                    have hstart : Hid (hb = true → hearB J2 (startE ci) = false) := Lib.hid fun h => (k2 h).2.2
                    have husd : Hid (hb = true → usedB J2.l = usedB J.l) := Lib.hid fun h => by rw [(k2 h).1]
                    replace hsm2 := Lib.hid hsm2
                    have hjl2 : Hid (J2.ps.length ≤ 100) := Lib.hid (by omega)
                    unfold killE Ev.val Ev.cells at hhr
                    replace hhr := Lib.hid hhr
                    replace k1 := Lib.hid k1
                    clear k2 hjl hlen hal sm1 sm2 hct hcell hb0 htk hnx wt0
                    go_wp2_with fail
                    refine hhr.out.mono ?_
                    rintro r W5 ⟨rfl, ⟨sl5, hj5, _⟩, ho5⟩
                    have hb5 : Below W.heap.size W W5 := hbZ2.trans (ho5.below hbZ2.size fun k hk => Nat.le_trans hBl (footJ_base hjZ k hk))
                    have hpe := Lib.hid (pending_any hj5 ci)
                    clear hhr ho5 hjZ hbZ2 hbZ3
                    have k1' := k1.out
                    cases lv with
                    | false =>
                      obtain rfl : hb = false := by rw [k1']; rfl
                      clear k1 k1' hstart husd hpend
                      go_wp2_with fail
                      refine hpe.out.mono ?_
                      rintro r W6 ⟨⟨q1, q2, q3, rfl⟩, hb6⟩
                      have hb7 := hfW.out _ (hb5.trans (hb6.mono hb5.size))
                      go_wp2
                      go_ret
                      exact ⟨rfl, hb7.alloc hb7.size _⟩
                    | true =>
                      cases tk with
                      | true =>
                        obtain rfl : hb = false := by rw [k1']; rfl
                        clear k1 k1' hstart husd hpend
                        go_wp2_with fail
                        refine hpe.out.mono ?_
                        rintro r W6 ⟨⟨q1, q2, q3, rfl⟩, hb6⟩
                        have hb7 := hfW.out _ (hb5.trans (hb6.mono hb5.size))
                        go_wp2
                        go_ret
                        exact ⟨rfl, hb7.alloc hb7.size _⟩
                      | false =>
                        obtain rfl : hb = true := by rw [k1']; rfl
                        clear k1 k1'
                        replace hpend := hpend.out rfl
                        replace hstart := Lib.hid (hstart.out rfl)
                        replace husd := Lib.hid (husd.out rfl)
                        rw [hpend] at hpe
                        clear hpend
                        go_wp2_with fail
                        refine hpe.out.mono ?_
                        rintro r W6 ⟨⟨q1, q2, q3, rfl⟩, hb6⟩
                        have bA := (Below.refl W6.heap.size W6).alloc (Nat.le_refl _) (.cells #[.int .i64 q1, .int .i64 q2, .int .i64 q3] 31)
                        have hj6 := (hj5.below hb6).below bA
                        have hb7 := hb5.trans (hb6.mono hb5.size)
                        have hb8 := hb7.trans (bA.mono hb7.size)
                        clear hpe hj5 hb5 hb6 hb7 bA
                        go_upto_region 33 with fail
                        generalize W6.alloc (.cells #[.int .i64 q1, .int .i64 q2, .int .i64 q3] 31) = X at *
                        have j0 := hj6.h0
                        have hus := used_any hj6.model
                        rw [husd.out] at hus
                        replace hus := Lib.hid hus
                        clear husd
                        go_wp2_with fail
                        refine hus.out.mono ?_
                        rintro r X2 ⟨rfl, hb9⟩
                        have hj7 := hj6.below hb9
                        have hb10 := hb8.trans (hb9.mono hb8.size)
                        have hhr2 := hear_any hj7 (startE ci) (by unfold startE Ev.fit; simp) hsm2.out hjl2.out
                        rw [hstart.out] at hhr2
                        unfold startE Ev.val Ev.cells at hhr2
                        replace hhr2 := Lib.hid hhr2
                        clear hus j0 hj6 hb8 hb9 hstart
                        go_wp2_with fail
                        refine hhr2.out.mono ?_
                        rintro r X3 ⟨rfl, _, ho8⟩
                        have hb11 := hfW.out _ (hb10.trans (ho8.below hb10.size fun k hk => Nat.le_trans hBl (footJ_base hj7 k hk)))
                        clear hhr2 ho8 hj7
                        go_wp2
                        go_ret
                        exact ⟨rfl, hb11⟩
end Go.Proofs.Ytclidckjnoafcaa

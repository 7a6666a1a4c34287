/- The law AuditMarks: the walk. -/
import Derived.Test.YtfknaheijidhcaaAudO

import Derived.Test.YtfknaheijidhcaaAudQ

import Derived.Deep.CutBlock

namespace Go.Proofs.Ytfknaheijidhcaa

open Go.RowKit

attribute [local go_sem ↓] Go.wp_at_zero Go.wp_at_succ

theorem rowU_blank (T : Nat) : rowU (List.replicate T 0) = madeCells #[.int .u64 0] T := by
  apply Array.toList_inj.1
  rw [toList_madeCells_one]
  simp [rowU]

theorem pgW_bd (x : Int) : 0 ≤ pgW x ∧ pgW x ≤ 100 := by
  have := cls_bd x
  unfold pgW; repeat' split
  all_goals omega
theorem slW_bd (x i : Int) : 0 ≤ slW x i ∧ slW x i ≤ 100 := by
  have := cls_bd x
  unfold slW skV saV; repeat' split
  all_goals omega
theorem mk_fit {lives : Bool} {ks xs : List Int} (hm : Mk lives ks ks.length xs) : (hpM ks xs).fit := by
  intro x hx
  obtain ⟨j, hj, rfl⟩ := List.getElem_of_mem hx
  have h1 := hm.2 j hj
  rw [List.getD_eq_getElem?_getD, List.getElem?_eq_getElem hj] at h1
  show 0 ≤ (some xs[j]).getD 0 ∧ (some xs[j]).getD 0 < _
  rw [h1]
  have h2 := fun x => pgW_bd x
  have h3 := fun x i => slW_bd x i
  unfold mkW stW
  repeat' split
  all_goals first | omega | (have := h2 (ks.getD (j - 2) 0); omega) | (have := h3 (ks.getD ((j - 2 - ks.length) / 16) 0) ((j - 2 - ks.length) % 16 : Nat); omega)

set_option maxRecDepth 100000 in
set_option maxHeartbeats 1000000 in
theorem auditMarks_any (ks : List Int) (v : Value) (lives : Bool) (w : World) (hr : RdZ .u8 w v ks) (hks : ∀ x ∈ ks, 0 ≤ x ∧ x < 256) :
    Calls Try.prog 5 #[v, .bool lives] w fun e w' => e = .returned (.bool true) ∧ Below w.heap.size w w' := by
  obtain ⟨ao, cap, hv, hcap, hcm, hcell⟩ := hr.cells
  obtain ⟨n, hn, hn'⟩ : ∃ n, Hid (n = ks.length) ∧ n = ks.length := ⟨_, Lib.hid rfl, rfl⟩
  rw [← hn'] at hv hcap
  clear hn'
  subst hv
  replace hcell := Lib.hid hcell
  have hcases : n = 0 ∨ (1 ≤ n ∧ 40 < n) ∨ (1 ≤ n ∧ n ≤ 40) := by omega
  rcases hcases with h0 | ⟨h0, h1⟩ | ⟨h0, h1⟩
  · subst h0
    go_enter Try.func5, Try.ntmps5
    go_wp2_with (go_at_call 9; refine (awake_any _).mono ?_; rintro e w1 ⟨rfl, hb1⟩)
    go_ret
    exact ⟨rfl, hb1⟩
  · have e0 : ¬ (n : Int) = 0 := by omega
    have e1 : (40 : Int) < (n : Int) := by omega
    go_enter Try.func5, Try.ntmps5
    go_wp2_with (go_at_call 9; refine (awake_any _).mono ?_; rintro e w1 ⟨rfl, hb1⟩)
    go_ret
    exact ⟨rfl, hb1⟩
  · have e0 : ¬ (n : Int) = 0 := by omega
    have e1 : ¬ (40 : Int) < (n : Int) := by omega
    have e2 : ((n : Int) == 0) = false := by simp; omega
    have hTl : ∃ T : Nat, Hid (T = 2 + 17 * n) ∧ totalV (n : Int) 2 0 = (T : Int) ∧ T ≤ 1000 := ⟨2 + 17 * n, Lib.hid rfl, by unfold totalV; rw [if_pos (mayB_iff.2 (by omega))]; omega, by omega⟩
    obtain ⟨T, hTl, hTb, hTc⟩ := hTl
    have htot := fun X => refTotal_any (n : Int) 2 0 X
    rw [hTb] at htot
    clear hTb
    replace htot := Lib.hid htot
    have hmk : ∀ u : World, (Instr.makeSlice 24 (.int .i64 (T : Int)) (.int .i64 (T : Int))).run Try.prog u = .ok (.slice (some ⟨u.heap.size, 0, .none⟩) T T) (u.alloc (.cells (rowU (List.replicate T 0)) 41)) := fun u => by
      rw [rowU_blank]; exact make_us T (by omega) u
    go_enter Try.func5, Try.ntmps5
    go_wp2_with fail
    refine (awake_any _).mono ?_
    rintro e w1 ⟨rfl, hb1⟩
    have hB1 := hb1
    have t1 := heap_alloc_new w1 (.cells #[.int .i64 (n : Int), .int .i64 2, .int .i64 0] 23)
    have t2 := hb1.alloc hb1.size (.cells #[.int .i64 (n : Int), .int .i64 2, .int .i64 0] 23)
    go_upto_region 6 with fail
    obtain ⟨H, hH, hH'⟩ : ∃ H, Hid (H = w1.heap.size) ∧ H = w1.heap.size := ⟨_, Lib.hid rfl, rfl⟩
    rw [← hH'] at t1 ⊢
    have hwH : w.heap.size ≤ H := by have := hb1.size; omega
    generalize w1.alloc (.cells #[.int .i64 (n : Int), .int .i64 2, .int .i64 0] 23) = W at *
    have lH : H < W.heap.size := (Array.getElem?_eq_some_iff.1 t1).1
    have c0 : W.cell? ⟨H, 0, .none⟩ = some (.int .i64 (n : Int)) := rowCells t1 0
    have c1 : W.cell? ⟨H, 1, .none⟩ = some (.int .i64 2) := rowCells t1 1
    have c2 : W.cell? ⟨H, 2, .none⟩ = some (.int .i64 0) := rowCells t1 2
    clear hH' hb1 hB1
    go_wp2_with fail
    refine (htot.out _).mono ?_
    rintro e w3 ⟨rfl, hb3⟩
    go_upto_region 7 with fail
    have u1 := heap_alloc_new w3 (.cells (rowU (List.replicate T 0)) 41)
    have u2 := hb3.alloc hb3.size (.cells (rowU (List.replicate T 0)) 41)
    obtain ⟨G, hG, hG'⟩ : ∃ G, Hid (G = w3.heap.size) ∧ G = w3.heap.size := ⟨_, Lib.hid rfl, rfl⟩
    rw [← hG'] at u1 ⊢
    have hHG : H < G := by have := hb3.size; omega
    generalize w3.alloc (.cells (rowU (List.replicate T 0)) 41) = U at *
    have lG : G < U.heap.size := (Array.getElem?_eq_some_iff.1 u1).1
    have d0 : U.heap[H]? = some (.cells #[.int .i64 (n : Int), .int .i64 2, .int .i64 0] 23 (0, 0)) := (u2.block _ lH).trans t1
    have hBU := t2.trans (u2.mono t2.size)
    clear c0 c1 c2 t1 t2 u2 hb3 hG' hmk htot
    go_upto_if 31 with fail
    go_cut [] (fun wx => wx.heap[H]? = some (.cells #[.int .i64 (n : Int), .int .i64 2, .int .i64 0] 23 (0, 0)) ∧ wx.heap[G]? = some (.cells (rowU ((List.replicate T 0).set 1 (stW lives))) 41 (0, 0)) ∧ Below w.heap.size w wx)
    case first =>
      have hTd : (1 : Int) < (T : Int) := by have := hTl.out; omega
      have hput := fun k X hk => refPutStatus_any k X hk
      replace hput := Lib.hid hput
      have hfin : Hid (∀ (Y : World) (x : Int), Below U.heap.size U Y → (Y.setCell ⟨G, 1, .none⟩ (.int .u64 x)).heap[H]? = some (.cells #[.int .i64 (n : Int), .int .i64 2, .int .i64 0] 23 (0, 0)) ∧ (Y.setCell ⟨G, 1, .none⟩ (.int .u64 x)).heap[G]? = some (.cells (rowU ((List.replicate T 0).set 1 x)) 41 (0, 0)) ∧ Below w.heap.size w (Y.setCell ⟨G, 1, .none⟩ (.int .u64 x))) := Lib.hid fun Y x hY => by
        have lH2 : H < U.heap.size := by omega
        refine ⟨(heap_setCell_other Y ⟨G, 1, .none⟩ H _ (by simp; omega)).trans ((hY.block _ lH2).trans d0), ?_, Below.setCell (hBU.trans (hY.mono hBU.size)) (by simp; omega) _⟩
        rw [heap_setCell_same Y G 1 _ _ _ ((hY.block _ lG).trans u1)]
        simp only [rowU, List.map_set, List.setIfInBounds_toArray]
      have hcell : Hid (∀ (Y : World), Below U.heap.size U Y → (∃ v, Y.cell? ⟨G, 1, .none⟩ = some v) ∧ Y.frozen? ⟨G, 1, .none⟩ = false) := Lib.hid fun Y hY => by
        have hg := (hY.block _ lG).trans u1
        refine ⟨?_, rowFree hg 1⟩
        refine ⟨_, (rowCells hg 1).trans (Array.getElem?_eq_getElem (by simp [rowU]; have := hTl.out; omega))⟩
      rcases Bool.eq_false_or_eq_true lives with hl | hl
      · subst hl
        go_wp2_with fail
        refine (hput.out 1 _ (.inl rfl)).mono ?_
        rintro e w4 ⟨rfl, hb4⟩
        obtain ⟨⟨_, q1⟩, q2⟩ := hcell.out _ hb4
        have hf := hfin.out _ 1 hb4
        go_wp2_with fail
        go_meet
        case rel => exact hf
      · subst hl
        go_wp2_with fail
        refine (hput.out 2 _ (.inr rfl)).mono ?_
        rintro e w4 ⟨rfl, hb4⟩
        obtain ⟨⟨_, q1⟩, q2⟩ := hcell.out _ hb4
        have hf := hfin.out _ 2 hb4
        go_wp2_with fail
        go_meet
        case rel => exact hf
    case rest =>
      obtain ⟨d0, u1, hBU⟩ := hcut
      clear lG lH
      obtain ⟨V, rfl⟩ : ∃ V : World, V = wc := ⟨_, rfl⟩
      have lG : G < V.heap.size := (Array.getElem?_eq_some_iff.1 u1).1
      go_upto_region 11 with fail
      have hN0 : CntAt (V.alloc (.cells #[.int .i64 0, .int .i64 0, .int .i64 0, .int .i64 0] 44)) V.heap.size Cn.zero := heap_alloc_new V _
      have hbN := (Below.refl V.heap.size V).alloc (Nat.le_refl _) (.cells #[.int .i64 0, .int .i64 0, .int .i64 0, .int .i64 0] 44)
      obtain ⟨N, hN, hN'⟩ : ∃ N, Hid (N = V.heap.size) ∧ N = V.heap.size := ⟨_, Lib.hid rfl, rfl⟩
      rw [← hN'] at hN0 ⊢
      have hst : Stt w (V.alloc (.cells #[.int .i64 0, .int .i64 0, .int .i64 0, .int .i64 0] 44)) H G N n ((List.replicate T 0).set 1 (stW lives)) ⟨(hT ks 0).f, (hT ks 0).t, 0, 0⟩ :=
        ⟨(hbN.block _ (by omega)).trans d0, (hbN.block _ lG).trans u1, hN0, hBU.trans (hbN.mono hBU.size), ⟨hwH, hHG, by omega⟩⟩
      have hmk0 : Mk lives ks 0 ((List.replicate T 0).set 1 (stW lives)) := by
        rw [hTl.out, hn.out]; exact Mk.start ks lives
      generalize V.alloc (.cells #[.int .i64 0, .int .i64 0, .int .i64 0, .int .i64 0] 44) = V2 at *
      clear hbN hN0 hN hN' d0 u1 lG
      have hpage := fun (k : Nat) X => refPage_any (n : Int) 2 0 (k : Int) X
      have hpix : ∀ k : Nat, k < n → pageIx (n : Int) 2 0 (k : Int) = ((2 + k : Nat) : Int) := fun k hk => by
        unfold pageIx; rw [if_pos ⟨mayB_iff.2 (by omega), wi_iff.2 (by omega)⟩]; omega
      replace hpage : Hid (∀ (k : Nat) (X : World), k < n → Calls Try.prog 19 #[.agg #[.int .i64 (n : Int), .int .i64 2, .int .i64 0], .int .i64 (k : Int)] X fun e w' => e = .returned (.int .i64 ((2 + k : Nat) : Int)) ∧ Below X.heap.size X w') := Lib.hid fun k X hk => by
        rw [← hpix k hk]; exact hpage k X
      clear hpix
      have hpp := Lib.hid (fun k a X hk ha => refPutPage_any k a X hk ha)
      have hxs : Hid (∀ k, k < n → (0 ≤ ks.getD k 0 ∧ ks.getD k 0 < 256) ∧ ∀ X, Below w.heap.size w X → ∃ b off, ao = some ⟨b, off, .none⟩ ∧ X.cell? ⟨b, off + k, .none⟩ = some (.int .u8 (ks.getD k 0))) := Lib.hid fun k hk => by
        have hkl : k < ks.length := hn.out ▸ hk
        have hg : ks.getD k 0 = ks[k] := by rw [List.getD_eq_getElem?_getD, List.getElem?_eq_getElem hkl]; rfl
        rw [hg]
        refine ⟨hks _ (List.getElem_mem hkl), fun X hX => ?_⟩
        obtain ⟨b, off, h1, h2, h3⟩ := hcell.out (fun e => by rw [e] at hkl; simp at hkl)
        exact ⟨b, off, h1, keepF hX _ _ _ (h3 k hkl)⟩
      clear hcell hr hks
      have hTs := Lib.hid (fun k => (hT_bd ks k))
      go_wp2_with fail
      go_loopw [8, 9] (fun vd vk wr => ∃ (k : Nat) (xs : List Int), k ≤ n ∧ vk = .int .i64 k ∧ vd = .int .i64 (hT ks k).d ∧ Stt w wr H G N n xs ⟨(hT ks k).f, (hT ks k).t, 0, 0⟩ ∧ Mk lives ks k xs) (fun _ vk _ => n - (intOf vk).toNat)
      case atStart => exact ⟨0, _, Nat.zero_le _, rfl, rfl, hst, hmk0⟩
      case round =>
        obtain ⟨k, xs, hk, rfl, rfl, hs, hmk⟩ := hrel
        clear hst hmk0 hBU
        have s0 := hs.s0
        have s1 := hs.s1
        have s2 := hs.s2
        by_cases hlt : k < n
        · have hlt' : (k : Int) < (n : Int) := by omega
          obtain ⟨hx, hxc⟩ := hxs.out k hlt
          obtain ⟨hd1, hd2, hd3⟩ := hTs.out k
          have hpg := Lib.hid (hpage.out k wr hlt)
          go_wp2_with fail
          refine hpg.out.mono ?_
          rintro e w4 ⟨rfl, hb4⟩
          have hs := hs.of hb4
          obtain ⟨b, off, rfl, hc⟩ := hxc _ hs.below
          clear hpg s0 s1 s2 hb4
          generalize hxe : ks.getD k 0 = x at *
          go_upto_region 17 with fail
          obtain ⟨c, hcl⟩ : ∃ c, clsV x = c := ⟨_, rfl⟩
          rw [show x / 4 % 4 = c from hcl]
          have hcb := cls_bd x
          rw [hcl] at hcb
          have hlen : xs.length = T := by have := hmk.1; have := hn.out; have := hTl.out; omega
          have hkT : 2 + k < T := by have := hTl.out; omega
          have hkT' : (2 : Int) + (k : Int) < (T : Int) := by omega
          have hkT2 : (0 : Int) ≤ 2 + (k : Int) := by omega
          have hkT3 : ((2 : Int) + (k : Int)).toNat = 2 + k := by omega
          have wk1 : IntKind.i64.wrap ((k : Int) + 1) = (k : Int) + 1 := IntWalk.i64_in _ ⟨by omega, by omega⟩
          have hkl : k < ks.length := hn.out ▸ hlt
          have hb3 := and3 x hx.1 hx.2
          have hTn : Hid ((hT ks (k + 1)).f = (hT ks k).f + (pT x).f ∧ (hT ks (k + 1)).t = (hT ks k).t + (pT x).t ∧ (hT ks (k + 1)).d = (hT ks k).d + (pT x).d) := Lib.hid (by
            subst hxe; exact ⟨rfl, rfl, rfl⟩)
          have hnx := Lib.hid hTn
          obtain ⟨t1, t2, t3⟩ := hTn.out
          have hfin : Hid (∀ (Y : World) (ys : List Int) (f t d : Int), Stt w Y H G N n ys ⟨f, t, 0, 0⟩ → Mk lives ks (k + 1) ys → f = (hT ks k).f + (pT x).f → t = (hT ks k).t + (pT x).t → d = (hT ks k).d + (pT x).d → ∃ (k' : Nat) (xs : List Int), k' ≤ n ∧ Value.int .i64 ((k : Int) + 1) = .int .i64 k' ∧ Value.int .i64 d = .int .i64 (hT ks k').d ∧ Stt w Y H G N n xs ⟨(hT ks k').f, (hT ks k').t, 0, 0⟩ ∧ Mk lives ks k' xs) := Lib.hid fun Y ys f t d q1 q2 e1 e2 e3 => by
            refine ⟨k + 1, ys, by omega, by go_num, by rw [t3, e3], ?_, q2⟩
            rw [t1, t2, ← e1, ← e2]; exact q1
          clear t1 t2 t3 hTn hnx
          have n0 := hs.count.c0
          have n1 := hs.count.c1
          have f0 := hs.count.fr 0
          have f1 := hs.count.fr 1
          have hone : ∀ i : Nat, 0 ≤ i → i < 16 → x % 4 ≠ 3 → slW (ks.getD k 0) i = 0 := fun i _ _ h => slW_none (.inl (by rw [hxe]; exact h))
          rcases four x with h4 | h4 | h4 | h4
          · rw [h4] at hb3
            have hpt : pT x = ⟨64, 0, 0⟩ := by unfold pT; rw [if_pos h4]
            have hpw : pgW x = 0 := by unfold pgW; rw [if_pos h4]
            have hm2 := (hmk.skip hkl (by rw [hxe]; exact hpw)).done hkl (fun i a b => hone i a b (by omega)) (by omega)
            have wf : IntKind.i64.wrap ((hT ks k).f + 64) = (hT ks k).f + 64 := IntWalk.i64_in _ ⟨by omega, by omega⟩
            have hq := hs.set0 ((hT ks k).f + 64)
            generalize hT ks k = t0 at *
            go_wp2
            exact ⟨hfin.out _ _ _ _ _ hq hm2 (by rw [hpt]) (by rw [hpt]; simp) (by rw [hpt]; simp), by simp [intOf]; omega⟩
          · rw [h4] at hb3
            have hpt : pT x = ⟨0, 64, 0⟩ := by unfold pT; rw [if_neg (by omega), if_pos h4]
            have hpw : pgW x = 19 := by unfold pgW; rw [if_neg (by omega), if_pos h4]
            have hm2 := (hmk.page hkl).done hkl (fun i a b => hone i a b (by omega)) (by omega)
            rw [hxe, hpw] at hm2
            have wf : IntKind.i64.wrap ((hT ks k).t + 64) = (hT ks k).t + 64 := IntWalk.i64_in _ ⟨by omega, by omega⟩
            have hpp1 := Lib.hid (hpp.out 3 1 w4 (by omega) (by omega))
            generalize hT ks k = t0 at *
            clear n0 n1 f0 f1
            go_wp2_with fail
            refine hpp1.out.mono ?_
            rintro e w5 ⟨rfl, hb5⟩
            have hs := hs.of hb5
            have g0 := hs.wc (2 + k) (by omega)
            have g1 := hs.wf (2 + k)
            have hs2 := hs.setW (2 + k) 19
            have n1 := hs2.count.c1
            have f1 := hs2.count.fr 1
            have hs3 := hs2.set1 (t0.t + 64)
            go_wp2
            exact ⟨hfin.out _ _ _ _ _ hs3 hm2 (by rw [hpt]; simp) (by rw [hpt]) (by rw [hpt]; simp), by simp [intOf]; omega⟩
          · rw [h4] at hb3
            have hpt : pT x = ⟨0, 0, 64⟩ := by unfold pT; rw [if_neg (by omega), if_neg (by omega), if_pos h4]
            have hpw : pgW x = 17 := by unfold pgW; rw [if_neg (by omega), if_neg (by omega), if_pos h4]
            have hm2 := (hmk.page hkl).done hkl (fun i a b => hone i a b (by omega)) (by omega)
            rw [hxe, hpw] at hm2
            have wf : IntKind.i64.wrap ((hT ks k).d + 64) = (hT ks k).d + 64 := IntWalk.i64_in _ ⟨by omega, by omega⟩
            have hpp1 := Lib.hid (hpp.out 1 1 w4 (by omega) (by omega))
            generalize hT ks k = t0 at *
            clear n0 n1 f0 f1
            go_wp2_with fail
            refine hpp1.out.mono ?_
            rintro e w5 ⟨rfl, hb5⟩
            have hs := hs.of hb5
            have g0 := hs.wc (2 + k) (by omega)
            have g1 := hs.wf (2 + k)
            have hs2 := hs.setW (2 + k) 17
            go_wp2
            exact ⟨hfin.out _ _ _ _ _ hs2 hm2 (by rw [hpt]; simp) (by rw [hpt]; simp) (by rw [hpt]), by simp [intOf]; omega⟩
          · rw [h4] at hb3
            have hpt : pT x = sS (sizeV c) (slotsV c).toNat := by unfold pT; rw [if_neg (by omega), if_neg (by omega), if_neg (by omega), hcl]
            have hpw : pgW x = 2 + 16 * c := by unfold pgW; rw [if_neg (by omega), if_neg (by omega), if_neg (by omega), hcl]
            have hm2 := hmk.page hkl
            rw [hxe, hpw] at hm2
            have hpp1 := Lib.hid (hpp.out 2 c w4 (by omega) (by omega))
            have hsz := fun X => refSize_any c X hcb
            have hsl := fun X => refSlots_any c X hcb
            have hzb := size_bd c
            have hlb := slots_bd c
            have hsw := fun i : Nat => show slW (ks.getD k 0) i = if (i : Int) < slotsV c then skV i + 16 * saV c i else 0 by rw [hxe]; unfold slW; rw [hcl]; simp only [h4, true_and]
            obtain ⟨q1, hq1⟩ : ∃ q1 : Nat, slotsV c = (q1 : Int) := ⟨(slotsV c).toNat, by omega⟩
            generalize hz : sizeV c = z at *
            rw [hq1] at hsl hlb hpt
            simp only [hq1] at hsw
            replace hsw := Lib.hid hsw
            replace hsz := Lib.hid hsz
            replace hsl := Lib.hid hsl
            replace hpt := Lib.hid hpt
            have hSb := Lib.hid (sS_bd z (by omega))
            generalize hT ks k = t0 at *
            clear n0 n1 f0 f1 hq1 hz
            go_wp2_with fail
            refine hpp1.out.mono ?_
            rintro e w5 ⟨rfl, hb5⟩
            have hs := hs.of hb5
            have g0 := hs.wc (2 + k) (by omega)
            have g1 := hs.wf (2 + k)
            have hs2 := hs.setW (2 + k) (2 + 16 * c)
            go_wp2_with (go_at_call 21; refine (hsz.out _).mono ?_; rintro e w6 ⟨rfl, rfl⟩)
            have hst0 : Hid (sS z 0 = ⟨0, 0, 0⟩) := Lib.hid rfl
            have hcell1 : ∀ X : World, Below w5.heap.size w5 X → True := fun _ _ => trivial
            clear hcell1
            go_loopw [8, 13] (fun vd vi wx => ∃ (q : Nat) (ys : List Int), q ≤ q1 ∧ vi = .int .i64 q ∧ vd = .int .i64 (t0.d + (sS z q).d) ∧ Stt w wx H G N n ys ⟨t0.f + (sS z q).f, t0.t + (sS z q).t, 0, 0⟩ ∧ Mq lives ks k q ys) (fun _ vi _ => q1 - (intOf vi).toNat)
            case atStart =>
              refine ⟨0, _, Nat.zero_le _, rfl, ?_, ?_, hm2⟩
              · rw [hst0.out]; simp
              · rw [hst0.out]; simpa using hs2
            case round =>
              obtain ⟨q, ys, hq, rfl, rfl, hs, hmq⟩ := hrel
              obtain ⟨wx, rfl⟩ : ∃ V : World, V = wr := ⟨_, rfl⟩
              clear hs2 hm2 g0 g1 hb5 hst0 hmk
              by_cases hqt : q < q1
              · have hqt' : (q : Int) < (q1 : Int) := by omega
                have hq0 : (0 : Int) ≤ (q : Int) := by omega
                have hq3 : (q : Int) % 3 = 0 ∨ (q : Int) % 3 = 1 ∨ (q : Int) % 3 = 2 := by omega
                have hsq := hsw.out q
                rw [if_pos hqt'] at hsq
                have hmq2 := hmq.slot hkl (by omega)
                rw [hsq] at hmq2
                obtain ⟨sb1, sb2, sb3⟩ := hSb.out q
                have wq1 : IntKind.i64.wrap ((q : Int) + 1) = (q : Int) + 1 := IntWalk.i64_in _ ⟨by omega, by omega⟩
                have hfin2 : Hid (∀ (Y : World) (zs : List Int) (f t d : Int), Stt w Y H G N n zs ⟨f, t, 0, 0⟩ → Mq lives ks k (q + 1) zs → f = t0.f + (sS z q).f + (sT z q).f → t = t0.t + (sS z q).t + (sT z q).t → d = t0.d + (sS z q).d + (sT z q).d → ∃ (q' : Nat) (ys : List Int), q' ≤ q1 ∧ Value.int .i64 ((q : Int) + 1) = .int .i64 q' ∧ Value.int .i64 d = .int .i64 (t0.d + (sS z q').d) ∧ Stt w Y H G N n ys ⟨t0.f + (sS z q').f, t0.t + (sS z q').t, 0, 0⟩ ∧ Mq lives ks k q' ys) := Lib.hid fun Y zs f t d p1 p2 e1 e2 e3 => by
                  refine ⟨q + 1, zs, by omega, by go_num, ?_, ?_, p2⟩
                  · rw [e3, Int.add_assoc]; rfl
                  · rw [e1, e2, Int.add_assoc, Int.add_assoc] at p1; exact p1
                obtain ⟨J, hJ⟩ : ∃ J : Nat, Hid (J = 2 + n + 16 * k + q) := ⟨_, Lib.hid rfl⟩
                have hJT : J < T := by have := hJ.out; have := hTl.out; omega
                have hJT' : (J : Int) < (T : Int) := by omega
                have hJ0 : (0 : Int) ≤ (J : Int) := by omega
                have hyl : ys.length = T := by have := hmq.1; have := hn.out; have := hTl.out; omega
                rw [show 2 + ks.length + 16 * k + q = J by have := hJ.out; have := hn.out; omega] at hmq2
                have hslot : Hid (∀ X : World, Calls Try.prog 24 #[.agg #[.int .i64 (n : Int), .int .i64 2, .int .i64 0], .int .i64 (k : Int), .int .i64 (q : Int)] X fun e w' => e = .returned (.int .i64 (J : Int)) ∧ Below X.heap.size X w') := Lib.hid fun X => by
                  have := refSlot_in (n : Int) 2 0 k q X (mayB_iff.2 (by omega)) (by omega) (by omega)
                  rwa [show (2 : Int) + n + 16 * k + q = (J : Int) by have := hJ.out; omega] at this
                rcases hq3 with h3 | h3 | h3
                · have hsT : sT z q = ⟨z, 0, 0⟩ := by unfold sT; rw [if_pos h3]
                  have hsk : skV q + 16 * saV c q = 1 + 16 * c := by unfold skV saV; rw [h3]; simp
                  rw [hsT] at hfin2
                  rw [hsk] at hmq2
                  generalize sS z q = s0 at *
                  have hal := (Below.refl wx.heap.size wx).alloc (Nat.le_refl _) (.cells #[.int .i64 1, .int .i64 c] 52)
                  have hxb := heap_alloc_new wx (.cells #[.int .i64 1, .int .i64 c] 52)
                  have hsa := hs.of hal
                  have n0 := hsa.count.c0
                  have f0 := hsa.count.fr 0
                  have wf : IntKind.i64.wrap (t0.f + s0.f + z) = t0.f + s0.f + z := IntWalk.i64_in _ ⟨by omega, by omega⟩
                  go_upto_region 31 with (go_at_call 22; refine (hsl.out _).mono ?_; rintro e w6 ⟨rfl, hw⟩; obtain rfl := hw.symm)
                  clear n0 f0
                  replace hsa := hsa.set0 (t0.f + s0.f + z)
                  replace hxb := (heap_setCell_other (wx.alloc (.cells #[.int .i64 1, .int .i64 c] 52)) ⟨N, 0, .none⟩ wx.heap.size (.int .i64 (t0.f + s0.f + z)) (by have := hs.lts.2.2; simp; omega)).trans hxb
                  generalize (wx.alloc (.cells #[.int .i64 1, .int .i64 c] 52)).setCell ⟨N, 0, .none⟩ (.int .i64 (t0.f + s0.f + z)) = Y at *
                  have hput : Hid (∀ X : World, Calls Try.prog 23 #[.agg #[.int .i64 1, .int .i64 c]] X fun e w' => e = .returned (.int .u64 (1 + 16 * c)) ∧ Below X.heap.size X w') := Lib.hid fun X => refPutSlot_any 1 c X (by omega) (by omega)
                  generalize (1 : Int) + 16 * c = sv at *
                  have lX : wx.heap.size < Y.heap.size := (Array.getElem?_eq_some_iff.1 hxb).1
                  obtain ⟨lH, lG, lN⟩ := hsa.lts
                  have s0' := hsa.s0
                  have s1' := hsa.s1
                  have s2' := hsa.s2
                  have x0 : Y.cell? ⟨wx.heap.size, 0, .none⟩ = some (.int .i64 1) := rowCells hxb 0
                  have x1 : Y.cell? ⟨wx.heap.size, 1, .none⟩ = some (.int .i64 c) := rowCells hxb 1
                  clear hs hal hxb
                  generalize wx.heap.size = XB at *
                  refine wp_region_ext_tail 7 (by kernel_rfl) (by kernel_rfl) ?_
                  dsimp only [List.take, List.drop]
                  repeat (go_big_quiet_step ((first
                    | (go_at_call 24; exact ext_of (hslot.out _))
                    | (go_at_call 23; exact ext_of (hput.out _)))))
                  refine wpQuiet_nil ?_
                  rintro _ ⟨e, rfl⟩
                  have hse := hsa.of e.below
                  have g0 := hse.wc J (by omega)
                  have g1 := hse.wf J
                  have hs9 := hse.setW J sv
                  clear s0' s1' s2' x0 x1 hsa
                  generalize e.w = Y2 at *
                  change wpList _ _ _ _ _ Y2
                  go_wp2
                  exact ⟨hfin2.out _ _ _ _ _ hs9 hmq2 (by simp) (by simp) (by simp), by simp [intOf]; omega⟩
                · have hsT : sT z q = ⟨0, 0, z⟩ := by unfold sT; rw [if_neg (by omega), if_neg (by omega)]
                  have hsk : skV q + 16 * saV c q = 2 + 16 * 1 := by unfold skV saV; rw [h3]; simp
                  rw [hsT] at hfin2
                  rw [hsk] at hmq2
                  generalize sS z q = s0 at *
                  have hal := (Below.refl wx.heap.size wx).alloc (Nat.le_refl _) (.cells #[.int .i64 2, .int .i64 1] 52)
                  have hxb := heap_alloc_new wx (.cells #[.int .i64 2, .int .i64 1] 52)
                  have hsa := hs.of hal
                  have wf : IntKind.i64.wrap (t0.d + s0.d + z) = t0.d + s0.d + z := IntWalk.i64_in _ ⟨by omega, by omega⟩
                  go_upto_region 31 with (go_at_call 22; refine (hsl.out _).mono ?_; rintro e w6 ⟨rfl, hw⟩; obtain rfl := hw.symm)
                  generalize wx.alloc (.cells #[.int .i64 2, .int .i64 1] 52) = Y at *
                  have hput : Hid (∀ X : World, Calls Try.prog 23 #[.agg #[.int .i64 2, .int .i64 1]] X fun e w' => e = .returned (.int .u64 (2 + 16 * 1)) ∧ Below X.heap.size X w') := Lib.hid fun X => refPutSlot_any 2 1 X (by omega) (by omega)
                  generalize (2 : Int) + 16 * 1 = sv at *
                  have lX : wx.heap.size < Y.heap.size := (Array.getElem?_eq_some_iff.1 hxb).1
                  obtain ⟨lH, lG, lN⟩ := hsa.lts
                  have s0' := hsa.s0
                  have s1' := hsa.s1
                  have s2' := hsa.s2
                  have x0 : Y.cell? ⟨wx.heap.size, 0, .none⟩ = some (.int .i64 2) := rowCells hxb 0
                  have x1 : Y.cell? ⟨wx.heap.size, 1, .none⟩ = some (.int .i64 1) := rowCells hxb 1
                  clear hs hal hxb
                  generalize wx.heap.size = XB at *
                  refine wp_region_ext_tail 7 (by kernel_rfl) (by kernel_rfl) ?_
                  dsimp only [List.take, List.drop]
                  repeat (go_big_quiet_step ((first
                    | (go_at_call 24; exact ext_of (hslot.out _))
                    | (go_at_call 23; exact ext_of (hput.out _)))))
                  refine wpQuiet_nil ?_
                  rintro _ ⟨e, rfl⟩
                  have hse := hsa.of e.below
                  have g0 := hse.wc J (by omega)
                  have g1 := hse.wf J
                  have hs9 := hse.setW J sv
                  clear s0' s1' s2' x0 x1 hsa
                  generalize e.w = Y2 at *
                  change wpList _ _ _ _ _ Y2
                  go_wp2
                  exact ⟨hfin2.out _ _ _ _ _ hs9 hmq2 (by simp) (by simp) (by simp), by simp [intOf]; omega⟩
                · have hsT : sT z q = ⟨0, z, 0⟩ := by unfold sT; rw [if_neg (by omega), if_pos h3]
                  have hsk : skV q + 16 * saV c q = 3 + 16 * c := by unfold skV saV; rw [h3]; simp
                  rw [hsT] at hfin2
                  rw [hsk] at hmq2
                  generalize sS z q = s0 at *
                  have hal := (Below.refl wx.heap.size wx).alloc (Nat.le_refl _) (.cells #[.int .i64 3, .int .i64 c] 52)
                  have hxb := heap_alloc_new wx (.cells #[.int .i64 3, .int .i64 c] 52)
                  have hsa := hs.of hal
                  have n0 := hsa.count.c1
                  have f0 := hsa.count.fr 1
                  have wf : IntKind.i64.wrap (t0.t + s0.t + z) = t0.t + s0.t + z := IntWalk.i64_in _ ⟨by omega, by omega⟩
                  go_upto_region 31 with (go_at_call 22; refine (hsl.out _).mono ?_; rintro e w6 ⟨rfl, hw⟩; obtain rfl := hw.symm)
                  clear n0 f0
                  replace hsa := hsa.set1 (t0.t + s0.t + z)
                  replace hxb := (heap_setCell_other (wx.alloc (.cells #[.int .i64 3, .int .i64 c] 52)) ⟨N, 1, .none⟩ wx.heap.size (.int .i64 (t0.t + s0.t + z)) (by have := hs.lts.2.2; simp; omega)).trans hxb
                  generalize (wx.alloc (.cells #[.int .i64 3, .int .i64 c] 52)).setCell ⟨N, 1, .none⟩ (.int .i64 (t0.t + s0.t + z)) = Y at *
                  have hput : Hid (∀ X : World, Calls Try.prog 23 #[.agg #[.int .i64 3, .int .i64 c]] X fun e w' => e = .returned (.int .u64 (3 + 16 * c)) ∧ Below X.heap.size X w') := Lib.hid fun X => refPutSlot_any 3 c X (by omega) (by omega)
                  generalize (3 : Int) + 16 * c = sv at *
                  have lX : wx.heap.size < Y.heap.size := (Array.getElem?_eq_some_iff.1 hxb).1
                  obtain ⟨lH, lG, lN⟩ := hsa.lts
                  have s0' := hsa.s0
                  have s1' := hsa.s1
                  have s2' := hsa.s2
                  have x0 : Y.cell? ⟨wx.heap.size, 0, .none⟩ = some (.int .i64 3) := rowCells hxb 0
                  have x1 : Y.cell? ⟨wx.heap.size, 1, .none⟩ = some (.int .i64 c) := rowCells hxb 1
                  clear hs hal hxb
                  generalize wx.heap.size = XB at *
                  refine wp_region_ext_tail 7 (by kernel_rfl) (by kernel_rfl) ?_
                  dsimp only [List.take, List.drop]
                  repeat (go_big_quiet_step ((first
                    | (go_at_call 24; exact ext_of (hslot.out _))
                    | (go_at_call 23; exact ext_of (hput.out _)))))
                  refine wpQuiet_nil ?_
                  rintro _ ⟨e, rfl⟩
                  have hse := hsa.of e.below
                  have g0 := hse.wc J (by omega)
                  have g1 := hse.wf J
                  have hs9 := hse.setW J sv
                  clear s0' s1' s2' x0 x1 hsa
                  generalize e.w = Y2 at *
                  change wpList _ _ _ _ _ Y2
                  go_wp2
                  exact ⟨hfin2.out _ _ _ _ _ hs9 hmq2 (by simp) (by simp) (by simp), by simp [intOf]; omega⟩
              · have hqe : q = q1 := by omega
                subst hqe
                have hq2 : ¬ (q : Int) < (q : Int) := by omega
                have hdn := hmq.done hkl (fun i h1 h2 => by rw [hsw.out i, if_neg (by omega)]) (by omega)
                have hpt := hpt.out
                rw [Int.toNat_natCast] at hpt
                rw [hpt] at hfin
                clear hsw hSb hqt hmq
                generalize sS z q = s0 at *
                go_wp2_with (go_at_call 22; refine (hsl.out _).mono ?_; rintro e w6 ⟨rfl, hw⟩; obtain rfl := hw.symm)
                exact ⟨hfin.out _ _ _ _ _ hs hdn rfl rfl rfl, by simp [intOf]; omega⟩
        · have hke : k = n := by omega
          subst hke
          have hke : ¬ (k : Int) < (k : Int) := by omega
          have hfit := mk_fit (lives := lives) (xs := xs) (hn.out ▸ hmk)
          have hsnd := mk_sound (lives := lives) (xs := xs) (hn.out ▸ hmk) (by have := hn.out; omega)
          have hcnt := mk_count (lives := lives) (xs := xs) (hn.out ▸ hmk) (by have := hn.out; omega)
          have hlen : xs.length = T := by have := hmk.1; have := hn.out; have := hTl.out; omega
          have hW : Hid (∀ (c : Cn) (X : World), Stt w X H G N (k : Int) xs c → Calls Try.prog 25 #[.agg #[.int .i64 (k : Int), .int .i64 2, .int .i64 0], .slice (some ⟨G, 0, .none⟩) T T] X fun e w' => e = .returned (.agg #[.int .i64 (cnT lives (hT ks k)).f, .int .i64 (cnT lives (hT ks k)).t, .int .i64 (cnT lives (hT ks k)).l, .int .i64 (cnT lives (hT ks k)).o]) ∧ Below X.heap.size X w') := Lib.hid fun c X hX => by
            have := awords_any (hpM ks xs) _ X (hX.rd (by omega)) hfit
            rw [hcnt, hlen] at this
            rw [← hn.out] at this
            simpa only [shV, hpM, ← hn.out] using this
          have hS : Hid (∀ (c : Cn) (X : World), Stt w X H G N (k : Int) xs c → Calls Try.prog 26 #[.agg #[.int .i64 (k : Int), .int .i64 2, .int .i64 0], .slice (some ⟨G, 0, .none⟩) T T] X fun e w' => e = .returned (.bool true) ∧ Below X.heap.size X w') := Lib.hid fun c X hX => by
            have := soundAll_any (hpM ks xs) _ X (hX.rd (by omega)) hfit
            rw [hlen] at this
            simp only [shV, hpM, ← hn.out] at this
            refine this.mono ?_
            rintro e w' ⟨⟨r, rfl, _, hr⟩, hb⟩
            exact ⟨by rw [hr (by simpa only [hpM, ← hn.out] using hsnd) rfl], hb⟩
          clear hsnd hcnt hfit hmk hTs hxs hpp hpage
          have f2 := hs.count.fr 2
          have f3 := hs.count.fr 3
          have n2 := hs.count.c2
          have n3 := hs.count.c3
          rcases Bool.eq_false_or_eq_true lives with hl | hl
          · subst hl
            have hcv : cnT true (hT ks k) = ⟨(hT ks k).f, (hT ks k).t, (hT ks k).d, 0⟩ := rfl
            rw [hcv] at hW
            generalize hT ks k = t0 at *
            go_upto_region 43 with fail
            have hq := (hs.set3 t0.d).set2 t0.d |>.set3 0
            generalize ((wr.setCell ⟨N, 3, .none⟩ (.int .i64 t0.d)).setCell ⟨N, 2, .none⟩ (.int .i64 t0.d)).setCell ⟨N, 3, .none⟩ (.int .i64 0) = Y at *
            obtain ⟨lH, lG, lN⟩ := hq.lts
            have m0 := hq.count.c0
            have m1 := hq.count.c1
            have m2 := hq.count.c2
            have m3 := hq.count.c3
            have p0 := hq.s0
            have p1 := hq.s1
            have p2 := hq.s2
            have hBY := hq.below
            have hW2 : Hid (∀ e : Ext Y, Calls Try.prog 25 #[.agg #[.int .i64 (k : Int), .int .i64 2, .int .i64 0], .slice (some ⟨G, 0, .none⟩) T T] e.w fun r w' => r = .returned (.agg #[.int .i64 t0.f, .int .i64 t0.t, .int .i64 t0.d, .int .i64 0]) ∧ Below e.w.heap.size e.w w') := Lib.hid fun e => hW.out _ _ (hq.of e.below)
            have hS2 : Hid (∀ e : Ext Y, Calls Try.prog 26 #[.agg #[.int .i64 (k : Int), .int .i64 2, .int .i64 0], .slice (some ⟨G, 0, .none⟩) T T] e.w fun r w' => r = .returned (.bool true) ∧ Below e.w.heap.size e.w w') := Lib.hid fun e => hS.out _ _ (hq.of e.below)
            clear hW hS hq hs n2 n3 f2 f3 s0 s1 s2
            refine wp_region_ext (by kernel_rfl) (by kernel_rfl) ?_
            repeat (go_big_quiet_step ((first
              | (go_at_call 25; exact ext_of (hW2.out _))
              | (go_at_call 26; exact ext_of (hS2.out _)))))
            refine wpQuiet_nil ?_
            rintro _ ⟨e, rfl⟩
            go_wp2
            go_ret
            exact ⟨rfl, hBY.trans (e.below.mono hBY.size)⟩
          · subst hl
            have hcv : cnT false (hT ks k) = ⟨(hT ks k).f, (hT ks k).t, 0, (hT ks k).d⟩ := rfl
            rw [hcv] at hW
            generalize hT ks k = t0 at *
            go_upto_region 43 with fail
            have hq := hs.set3 t0.d
            generalize wr.setCell ⟨N, 3, .none⟩ (.int .i64 t0.d) = Y at *
            obtain ⟨lH, lG, lN⟩ := hq.lts
            have m0 := hq.count.c0
            have m1 := hq.count.c1
            have m2 := hq.count.c2
            have m3 := hq.count.c3
            have p0 := hq.s0
            have p1 := hq.s1
            have p2 := hq.s2
            have hBY := hq.below
            have hW2 : Hid (∀ e : Ext Y, Calls Try.prog 25 #[.agg #[.int .i64 (k : Int), .int .i64 2, .int .i64 0], .slice (some ⟨G, 0, .none⟩) T T] e.w fun r w' => r = .returned (.agg #[.int .i64 t0.f, .int .i64 t0.t, .int .i64 0, .int .i64 t0.d]) ∧ Below e.w.heap.size e.w w') := Lib.hid fun e => hW.out _ _ (hq.of e.below)
            have hS2 : Hid (∀ e : Ext Y, Calls Try.prog 26 #[.agg #[.int .i64 (k : Int), .int .i64 2, .int .i64 0], .slice (some ⟨G, 0, .none⟩) T T] e.w fun r w' => r = .returned (.bool true) ∧ Below e.w.heap.size e.w w') := Lib.hid fun e => hS.out _ _ (hq.of e.below)
            clear hW hS hq hs n2 n3 f2 f3 s0 s1 s2
            refine wp_region_ext (by kernel_rfl) (by kernel_rfl) ?_
            repeat (go_big_quiet_step ((first
              | (go_at_call 25; exact ext_of (hW2.out _))
              | (go_at_call 26; exact ext_of (hS2.out _)))))
            refine wpQuiet_nil ?_
            rintro _ ⟨e, rfl⟩
            go_wp2
            go_ret
            exact ⟨rfl, hBY.trans (e.below.mono hBY.size)⟩
end Go.Proofs.Ytfknaheijidhcaa

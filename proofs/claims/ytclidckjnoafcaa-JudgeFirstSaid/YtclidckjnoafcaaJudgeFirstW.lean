/- The law JudgeFirst: the walk. -/
import Derived.Test.YtclidckjnoafcaaJudA

namespace Go.Proofs.Ytclidckjnoafcaa

open Go.RowKit

attribute [local go_sem ↓] Go.wp_at_zero Go.wp_at_succ

attribute [local go_sem high] run_cut_l run_cut_h run_cut_lh

set_option maxRecDepth 100000 in
set_option maxHeartbeats 4000000 in
theorem judgeFirst_any (p c m k : Int) (es : List Ev) (v : Value) (w : World) (hk : 0 ≤ k ∧ k < 256) (hr : RdE w v es) (hf : fitE es) :
    Calls Try.prog 3 #[.agg #[.int .i64 p, .int .i64 c, .int .i64 m], v, .int .u8 k] w fun e w' => e = .returned (.bool true) ∧ Below w.heap.size w w' := by
  obtain ⟨ao, cap, rfl, hcap, hcm, hne⟩ := hr.nth
  have hhn := hne
  obtain ⟨n, hn, hn'⟩ : ∃ n, Hid (n = es.length) ∧ n = es.length := ⟨_, Lib.hid rfl, rfl⟩
  rw [← hn'] at hcap
  have haw := Lib.hid (fun X => awake7_any X)
  have hru : Hid (es.length ≤ 200 → ∀ X, RdE X (.slice ao es.length cap) es → Calls Try.prog 8 #[.agg #[.int .i64 p, .int .i64 c, .int .i64 m], .slice ao es.length cap] X fun r w' => r = .returned (.agg #[.int .i64 (runJ (newJ p c m) es).at', .int .i64 (runJ (newJ p c m) es).why]) ∧ Below X.heap.size X w') :=
    Lib.hid fun h200 X h => rule_any p c m _ es X h hf (by omega)
  have hrt : Hid (es.length ≤ 200 → ∀ X (i : Nat), i ≤ es.length → RdE X (.slice ao es.length cap) es → Calls Try.prog 8 #[.agg #[.int .i64 p, .int .i64 c, .int .i64 m], cutV ao 0 i cap 8] X fun r w' => r = .returned (.agg #[.int .i64 (runJ (newJ p c m) (es.take i)).at', .int .i64 (runJ (newJ p c m) (es.take i)).why]) ∧ Below X.heap.size X w') :=
    Lib.hid fun h200 X i hi h => rule_any p c m _ (es.take i) X (h.take i hi) (fun e he => hf e (List.mem_of_mem_take he)) (by rw [List.length_take]; omega)
  have hfl := Lib.hid (first_law p c m es)
  have hrd : Hid (∀ X, Below w.heap.size w X → RdE X (.slice ao es.length cap) es) := Lib.hid fun X hb => hr.below hb
  clear hr hne hhn hf
  simp only [← hn'] at hru hrt hfl hrd ⊢
  clear hn'
  obtain ⟨t1, t2⟩ : (w.alloc (.cells #[.int .i64 p, .int .i64 c, .int .i64 m] 23)).heap[w.heap.size]? = some (.cells #[.int .i64 p, .int .i64 c, .int .i64 m] 23 (0, 0)) ∧ Below w.heap.size w (w.alloc (.cells #[.int .i64 p, .int .i64 c, .int .i64 m] 23)) := ⟨heap_alloc_new w _, (Below.refl w.heap.size w).alloc (Nat.le_refl _) _⟩
  obtain ⟨H, hH, hH'⟩ : ∃ H, Hid (H = w.heap.size) ∧ H = w.heap.size := ⟨_, Lib.hid rfl, rfl⟩
  go_enter Try.func3, Try.ntmps3
  go_upto_region 1 with fail
  generalize w.alloc (.cells #[.int .i64 p, .int .i64 c, .int .i64 m] 23) = W at *
  rw [← hH'] at t1 ⊢
  clear hH'
  go_wp2_with fail
  refine (haw.out W).mono ?_
  rintro r W1 ⟨rfl, hb1⟩
  have hb1' : Below w.heap.size w W1 := t2.trans (hb1.mono t2.size)
  have c0 : W1.cell? ⟨H, 0, .none⟩ = some (.int .i64 p) := keepF hb1 _ _ _ (rowCells t1 0)
  have c1 : W1.cell? ⟨H, 1, .none⟩ = some (.int .i64 c) := keepF hb1 _ _ _ (rowCells t1 1)
  have c2 : W1.cell? ⟨H, 2, .none⟩ = some (.int .i64 m) := keepF hb1 _ _ _ (rowCells t1 2)
  have lH : H < W1.heap.size := Nat.lt_of_lt_of_le (Array.getElem?_eq_some_iff.1 t1).1 hb1.size
  clear hb1 t1 t2
  by_cases h200 : n ≤ 200
  case neg =>
    have e1 : decide ((n : Int) > 200) = true := by simp; omega
    go_wp2
    go_ret
    exact ⟨rfl, hb1'⟩
  case pos =>
    have e1 : decide ((n : Int) > 200) = false := by simp; omega
    replace hru := Lib.hid (hru.out h200)
    replace hrt := Lib.hid (hrt.out h200)
    have hK : Hid (∀ X, Below W1.heap.size W1 X → Below w.heap.size w X) := Lib.hid fun X hb => hb1'.trans (hb.mono hb1'.size)
    go_upto_if 17 with fail
    go_cut [7] (fun v7 wx => ∃ i : Nat, i ≤ n ∧ v7 = .int .i64 i ∧ wx = W1)
    case first =>
      by_cases h0 : n = 0
      · have e2 : decide ((n : Int) > 0) = false := by simp; omega
        have e3 : (0 < n) = False := by simp; omega
        go_wp2
        go_meet
        exact ⟨0, Nat.zero_le _, rfl, rfl⟩
      · have e2 : decide ((n : Int) > 0) = true := by simp; omega
        have e3 : (0 < n) = True := by simp; omega
        have wk : IntKind.i64.wrap k = k := IntWalk.i64_in _ ⟨by omega, by omega⟩
        have wn : IntKind.i64.wrap ((n : Int) + 1) = (n : Int) + 1 := IntWalk.i64_in _ ⟨by omega, by omega⟩
        have hne : (n : Int) + 1 ≠ 0 := by omega
        obtain ⟨i, hi, hi'⟩ : ∃ i : Nat, i ≤ n ∧ k.tmod ((n : Int) + 1) = (i : Int) := by
          refine ⟨(k % ((n : Int) + 1)).toNat, ?_, ?_⟩
          · have := Int.emod_lt_of_pos k (b := (n : Int) + 1) (by omega)
            omega
          · rw [Int.tmod_eq_emod_of_nonneg hk.1, Int.toNat_of_nonneg (Int.emod_nonneg _ hne)]
        have wi : IntKind.i64.wrap (i : Int) = (i : Int) := IntWalk.i64_in _ ⟨by omega, by omega⟩
        go_wp2
        go_meet
        exact ⟨i, hi, rfl, rfl⟩
    case rest =>
      obtain ⟨i, hi, rfl, rfl⟩ := hcut
      obtain ⟨f1, f2⟩ := hfl.out i hi
      have hce : cutV ao 0 i cap 8 = .slice ao i cap := by
        unfold cutV sliced
        have e : ao.map (·.add (0 * 8)) = ao := by cases ao <;> simp [Addr.add]
        rw [e, ite_self]
        rfl
      have hrt1 := Lib.hid (fun X h => hce ▸ hrt.out X i hi h)
      clear hce
      generalize (runJ (newJ p c m) es).at' = ja at *
      generalize (runJ (newJ p c m) es).why = jw at *
      generalize (runJ (newJ p c m) (List.take i es)).at' = ca at *
      generalize (runJ (newJ p c m) (List.take i es)).why = cw at *
      have hit : ((i : Int)).toNat = i := rfl
      replace f1 := Lib.hid f1
      replace f2 := Lib.hid f2
      clear hrt hfl
      go_upto_region 8 with fail
      refine wp_region_two_ext (x := ⟨8, 10, 2, 8, 26, 27, #[.int .i64 0, .int .i64 0], #[.int .i64 ja, .int .i64 jw]⟩) (y := ⟨9, 11, 7, 9, 31, 27, #[.int .i64 0, .int .i64 0], #[.int .i64 ca, .int .i64 cw]⟩) (by kernel_rfl) (by simp only [nopF, nopO, ownB, Nat.reduceBEq, Bool.or_false, Bool.or_true, Bool.false_eq_true, ↓reduceIte, Nat.reduceAdd]; exact rfl) (by kernel_rfl) (by kernel_rfl) (by kernel_rfl) (by constructor <;> simp) (by refine ⟨?_, ?_, ?_, ?_⟩ <;> simp) (by constructor <;> rfl) (by constructor <;> simp) ?_
      apply Exists.intro
      refine ⟨fun B hb => ?_, ?_, ?_, ?_⟩
      case refine_1 =>
        have k0 : B.cell? ⟨H, 0, .none⟩ = some (.int .i64 p) := keepF hb _ _ _ c0
        have k1 : B.cell? ⟨H, 1, .none⟩ = some (.int .i64 c) := keepF hb _ _ _ c1
        have k2 : B.cell? ⟨H, 2, .none⟩ = some (.int .i64 m) := keepF hb _ _ _ c2
        have lB : H < B.heap.size := Nat.lt_of_lt_of_le lH hb.size
        repeat (go_big_quiet_step ((first
          | (go_at_call 8; with_reducible exact ext_of (hru.out _ (hrd.out _ (hK.out _ (belowTrans hb (Ext.below _))))))
          | (go_at_call 8; with_reducible exact ext_of (hrt1.out _ (hrd.out _ (hK.out _ (belowTrans hb (Ext.below _)))))))))
        exact wpQuiet_nil rfl
      case refine_2 => exact rul_step rfl rfl rfl rfl rfl rfl rfl rfl (by simp [Region.binds]) (by simp [Region.binds])
      case refine_3 => exact rul_step rfl rfl rfl rfl rfl rfl rfl rfl (by simp [Region.binds]) (by simp [Region.binds])
      case refine_4 =>
        intro a w4 M N hfl
        obtain ⟨rfl, hb, hMN, _, hM, hN⟩ := hfl
        have hM : RuAt w4 M ja jw := hM
        have hN : RuAt w4 N ca cw := hN
        have m0 := hM.c0
        have m1 := hM.c1
        have n0 := hN.c0
        have n1 := hN.c1
        have hB := hK.out _ hb
        clear hM hN
        simp only [Act.put, vptr]
        by_cases h0 : cw = 0
        · obtain ⟨rfl, g2⟩ := f2.out h0
          subst h0
          by_cases hj : jw = 0
          · subst hj
            go_wp2
            go_ret
            exact ⟨rfl, hB⟩
          · have g3 : (i : Int) ≤ ja := g2.resolve_left hj
            have g4 : (jw == 0) = false := by simpa using hj
            have g5 : decide (ja ≥ (i : Int)) = true := by simpa using g3
            go_wp2
            go_ret
            exact ⟨rfl, hB⟩
        · obtain ⟨rfl, rfl, g1, g2⟩ := f1.out h0
          have g4 : (jw == 0) = false := by simpa using h0
          have g3 : decide (ja < (i : Int)) = true := by simpa using g2
          have g5 : decide (ja ≥ 0) = true := by simpa using g1
          go_wp2
          go_ret
          exact ⟨rfl, hB⟩
end Go.Proofs.Ytclidckjnoafcaa

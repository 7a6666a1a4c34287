/- The law AuditRoom: the walk. -/
import Derived.Test.YtfknaheijidhcaaAudQ
import Derived.Test.YtfknaheijidhcaaRwM
import Derived.Deep.CutBlock
namespace Go.Proofs.Ytfknaheijidhcaa
open Go.RowKit
attribute [local go_sem high] run_cut_l run_cut_h run_cut_lh
attribute [local go_sem ↓] run_max_n run_min_n

set_option maxHeartbeats 1000000 in
theorem refRun_any (n : Int) (w : World) :
    Calls Try.prog 13 #[.int .i64 n] w fun e w' => e = .returned (.tuple #[.int .i64 (runV n), .bool (wi n 33 512)]) ∧ w' = w := by
  by_cases h : 33 ≤ n ∧ n ≤ 512
  · have h1 : wi n 33 512 = true := wi_iff.2 h
    have h2 : runV n = (n + 64 - 1) / 64 := by unfold runV; rw [if_pos h1]; omega
    have w1 : IntKind.i64.wrap (n + 64) = n + 64 := IntWalk.i64_in _ ⟨by omega, by omega⟩
    have w2 : IntKind.i64.wrap (n + 64 - 1) = n + 64 - 1 := IntWalk.i64_in _ ⟨by omega, by omega⟩
    have w3 : IntKind.i64.wrap ((n + 64 - 1).tdiv 64) = (n + 64 - 1) / 64 := by rw [Int.tdiv_eq_ediv_of_nonneg (by omega)]; exact IntWalk.i64_in _ ⟨by omega, by omega⟩
    rw [h1, h2]
    clear h2
    obtain ⟨h3, h4⟩ := h
    go_enter Try.func13, Try.ntmps13
    go_wp2
    go_ret2
    exact ⟨rfl, rfl⟩
  · have h1 : wi n 33 512 = false := wi_false.2 h
    have h2 : runV n = 0 := by unfold runV; rw [if_neg (by rw [h1]; simp)]
    rw [h1, h2]
    have hc : n < 33 ∨ (33 ≤ n ∧ 512 < n) := by omega
    clear h1 h2 h
    rcases hc with hc | ⟨hc, hc2⟩
    · go_enter Try.func13, Try.ntmps13
      go_wp2
      go_ret2
      exact ⟨rfl, rfl⟩
    · go_enter Try.func13, Try.ntmps13
      go_wp2
      go_ret2
      exact ⟨rfl, rfl⟩

theorem RdZ.head {w : World} {k : IntKind} {ao : Option Addr} {cap n : Nat} {z : Int} (h : RdZ k w (.slice ao n cap) (List.replicate n z)) {j : Nat} (hj : j ≤ n) : RdZ k w (.slice ao j cap) (List.replicate j z) := by
  obtain ⟨ao', cap', e, h1, h2, _, h4⟩ := h
  rw [List.length_replicate] at e h1 h4
  injection e with e1 _ e3
  subst e1 e3
  unfold RdZ
  rw [List.length_replicate]
  refine ⟨ao, cap, rfl, by omega, h2, by simp, fun hn => ?_⟩
  obtain ⟨b, off, ea, hlt, hc⟩ := h4 (by omega)
  refine ⟨b, off, ea, hlt, fun i hi => (hc i (by omega)).trans ?_⟩
  simp only [List.map_replicate, List.getElem?_replicate]
  rw [if_pos (by omega), if_pos (by omega)]

set_option maxRecDepth 100000 in
set_option maxHeartbeats 8000000 in
theorem auditRoom_any (h : Hp) (v : Value) (a b : Int) (w : World) (hr : RdZ .u64 w v h.xs) (hf : h.fit) (ha : 0 ≤ a ∧ a ≤ 65535) (hb : 0 ≤ b ∧ b ≤ 65535) :
    Calls Try.prog 3 #[shV h, v, .agg #[.int .u16 a, .int .u16 b]] w fun e w' => e = .returned (.bool true) ∧ Below w.heap.size w w' := by
  have hroom := fun n X (hX : Below w.heap.size w X) => room_any h v n X (hr.below (w' := X) hX) hf
  obtain ⟨ao, cap, hv, hcap, hcm, _⟩ := hr.cells
  obtain ⟨N, hN⟩ : ∃ N, N = h.xs.length := ⟨_, rfl⟩
  rw [← hN] at hv hcap
  subst hv
  have t1 := two_blocks w (.cells #[.int .i64 h.p, .int .i64 h.c, .int .i64 h.m] 23) (.cells #[.int .u16 a, .int .u16 b] 26)
  by_cases hlong : 3000 < N
  · have h1 : (3000 : Int) < (N : Int) := by omega
    clear hroom
    replace hN := Lib.hid hN
    go_enter Try.func3, Try.ntmps3
    go_wp2_with (go_at_call 9; refine (awake_any _).mono ?_; rintro e w1 ⟨rfl, hb1⟩)
    go_ret
    exact ⟨rfl, t1.2.2.2.trans (hb1.mono (by simp; omega))⟩
  · have hN3 : N ≤ 3000 := by omega
    have hlen : ¬ (3000 : Int) < (N : Int) := by omega
    have wa : IntKind.i64.wrap a = a := IntWalk.i64_in _ ⟨by omega, by omega⟩
    have wb : IntKind.i64.wrap b = b := IntWalk.i64_in _ ⟨by omega, by omega⟩
    have wa1 : IntKind.i64.wrap (1 + a.tmod 512) = 1 + a % 512 := by rw [Int.tmod_eq_emod_of_nonneg ha.1]; exact IntWalk.i64_in _ ⟨by omega, by omega⟩
    have wb1 : IntKind.i64.wrap (1 + b.tmod 512) = 1 + b % 512 := by rw [Int.tmod_eq_emod_of_nonneg hb.1]; exact IntWalk.i64_in _ ⟨by omega, by omega⟩
    replace hN := Lib.hid hN
    replace hroom := Lib.hid hroom
    clear hlong
    go_enter Try.func3, Try.ntmps3
    go_wp2_with fail
    refine (awake_any _).mono ?_
    rintro e w1 ⟨rfl, hb1⟩
    have hB := t1.2.2.2.trans (hb1.mono (by simp; omega))
    have s0 := (hb1.block _ (by simp; omega)).trans t1.1
    have s1 := (hb1.block _ (by simp)).trans t1.2.1
    obtain ⟨H, hH, hH'⟩ : ∃ H, Hid (H = w.heap.size) ∧ H = w.heap.size := ⟨_, Lib.hid rfl, rfl⟩
    rw [← hH'] at s0 s1 ⊢
    have lS : H < w1.heap.size := (Array.getElem?_eq_some_iff.1 s0).1
    have c0 : w1.cell? ⟨H, 0, .none⟩ = some (.int .i64 h.p) := rowCells s0 0
    have c1 : w1.cell? ⟨H, 1, .none⟩ = some (.int .i64 h.c) := rowCells s0 1
    have c2 : w1.cell? ⟨H, 2, .none⟩ = some (.int .i64 h.m) := rowCells s0 2
    have e0 : w1.cell? ⟨H + 1, 0, .none⟩ = some (.int .u16 a) := rowCells s1 0
    have e1 : w1.cell? ⟨H + 1, 1, .none⟩ = some (.int .u16 b) := rowCells s1 1
    clear hH' s0 s1 t1 hb1
    generalize H + 1 = H2 at *
    go_wp2_with fail
    go_quiet (fail)
    have hA : 1 ≤ 1 + a % 512 ∧ 1 + a % 512 ≤ 512 := by omega
    have hBb : 1 ≤ 1 + b % 512 ∧ 1 + b % 512 ≤ 512 := by omega
    go_upto_region 6 with fail
    clear e0 e1 wa wb wa1 wb1 hb ha
    generalize 1 + a % 512 = A at *
    generalize 1 + b % 512 = B at *
    have hBq : Below w.heap.size w (w1.drewN nq) := below_drewN hB _
    have hq0 : (w1.drewN nq).cell? ⟨H, 0, .none⟩ = some (.int .i64 h.p) := c0
    have hq1 : (w1.drewN nq).cell? ⟨H, 1, .none⟩ = some (.int .i64 h.c) := c1
    have hq2 : (w1.drewN nq).cell? ⟨H, 2, .none⟩ = some (.int .i64 h.m) := c2
    have lSq : H < (w1.drewN nq).heap.size := lS
    clear hB c0 c1 c2 lS
    generalize w1.drewN nq = W at *
    have hxlo : Hid (∀ e : Ext W, Calls Try.prog 10 #[.agg #[.int .i64 h.p, .int .i64 h.c, .int .i64 h.m], .slice ao N cap, .int .i64 (min A B)] e.w fun r w' => r = .returned (.bool (h.room (min A B))) ∧ Below e.w.heap.size e.w w') := Lib.hid fun e => hroom.out _ _ (hBq.trans (e.below.mono hBq.size))
    have hxhi : Hid (∀ e : Ext W, Calls Try.prog 10 #[.agg #[.int .i64 h.p, .int .i64 h.c, .int .i64 h.m], .slice ao N cap, .int .i64 (max A B)] e.w fun r w' => r = .returned (.bool (h.room (max A B))) ∧ Below e.w.heap.size e.w w') := Lib.hid fun e => hroom.out _ _ (hBq.trans (e.below.mono hBq.size))
    have hmono : h.room (max A B) = true → h.room (min A B) = true := room_mono h (by omega) (wi_iff.2 (by omega)) (wi_iff.2 (by omega))
    have hbad : mayB h.p h.c h.m = false → h.room (min A B) = false ∧ h.room (max A B) = false := fun hm => by
      have : h.ok = false := by unfold Hp.ok; rw [hm]; rfl
      exact ⟨room_bad _ _ this, room_bad _ _ this⟩
    generalize h.room (min A B) = x at *
    generalize h.room (max A B) = y at *
    refine wp_region_ext (by kernel_rfl) (by kernel_rfl) ?_
    repeat (go_big_quiet_step ((first
      | (go_at_call_of 10 (Value.int .i64 (min A B)); exact ext_of (hxlo.out _))
      | (go_at_call_of 10 (Value.int .i64 (max A B)); exact ext_of (hxhi.out _)))))
    refine wpQuiet_nil ?_
    rintro _ ⟨e, rfl⟩
    have hBe := hBq.trans (e.below.mono hBq.size)
    have c0 := keepF e.below _ _ _ hq0
    have c1 := keepF e.below _ _ _ hq1
    have c2 := keepF e.below _ _ _ hq2
    have lS : H < e.w.heap.size := by have := e.below.size; omega
    clear hxlo hxhi hq0 hq1 hq2 lSq hBq hroom
    generalize e.w = V at *
    clear e
    go_upto_region 7 with fail
    go_cut [45] (fun s wx => s = .bool false ∧ wx = V)
    case first =>
      rcases Bool.eq_false_or_eq_true y with hy | hy
      · have hx := hmono hy
        subst hx hy
        go_wp2_with fail
        go_meet
        case rel => exact ⟨rfl, rfl⟩
      · subst hy
        go_wp2_with fail
        go_meet
        case rel => exact ⟨rfl, rfl⟩
    case rest =>
      obtain ⟨rfl, hw⟩ := hcut
      obtain rfl := hw.symm
      clear hw
      have hmay := refMay_any h.p h.c h.m
      rcases Bool.eq_false_or_eq_true (mayB h.p h.c h.m) with hmb | hmb
      case inr =>
        obtain ⟨hx, hy⟩ := hbad hmb
        rw [hmb] at hmay
        subst hx hy
        replace hmay := Lib.hid hmay
        clear hmb hbad hmono
        go_wp2_with fail
        refine (hmay.out _).mono ?_
        rintro e w2 ⟨rfl, rfl⟩
        go_wp2
        go_ret
        exact ⟨rfl, hBe.alloc hBe.size _⟩
      case inl =>
        rw [hmb] at hmay
        have hbd := mayB_iff.1 hmb
        have htot := refTotal_any h.p h.c h.m
        have htb := total_bd h.p h.c h.m
        obtain ⟨T, hT⟩ : ∃ T : Nat, totalV h.p h.c h.m = T := ⟨(totalV h.p h.c h.m).toNat, by omega⟩
        have hT1 : 1 ≤ T := by
          have := hT
          unfold totalV at this
          rw [if_pos hmb] at this
          have := mul_bd (c := h.c) (m := h.m) (C := 12) (M := 8) (by omega) (by omega)
          omega
        have hr1 : Hid (∀ v X, RdZ .u64 X v (List.replicate T 0) → Calls Try.prog 10 #[.agg #[.int .i64 h.p, .int .i64 h.c, .int .i64 h.m], v, .int .i64 A] X fun r w' => r = .returned (.bool (decide (pagesV A ≤ h.p))) ∧ Below X.heap.size X w') := Lib.hid fun v X hX => by
          have := room_any ⟨h.p, h.c, h.m, List.replicate T 0⟩ v A X hX (blank_fit _ _ _ _)
          rwa [room_blank hmb A (wi_iff.2 (by omega)) hT.symm] at this
        have hr2 : Hid (∀ v X, RdZ .u64 X v (List.replicate T 0) → Calls Try.prog 10 #[.agg #[.int .i64 h.p, .int .i64 h.c, .int .i64 h.m], v, .int .i64 0] X fun r w' => r = .returned (.bool false) ∧ Below X.heap.size X w') := Lib.hid fun v X hX => by
          have := room_any ⟨h.p, h.c, h.m, List.replicate T 0⟩ v 0 X hX (blank_fit _ _ _ _)
          rwa [room_len _ 0 (by decide)] at this
        have hr3 : Hid (∀ v X, RdZ .u64 X v (List.replicate T 0) → Calls Try.prog 10 #[.agg #[.int .i64 h.p, .int .i64 h.c, .int .i64 h.m], v, .int .i64 513] X fun r w' => r = .returned (.bool false) ∧ Below X.heap.size X w') := Lib.hid fun v X hX => by
          have := room_any ⟨h.p, h.c, h.m, List.replicate T 0⟩ v 513 X hX (blank_fit _ _ _ _)
          rwa [room_len _ 513 (by decide)] at this
        have hr4 : Hid (∀ v X, RdZ .u64 X v (List.replicate (T - 1) 0) → Calls Try.prog 10 #[.agg #[.int .i64 h.p, .int .i64 h.c, .int .i64 h.m], v, .int .i64 A] X fun r w' => r = .returned (.bool false) ∧ Below X.heap.size X w') := Lib.hid fun v X hX => by
          have := room_any ⟨h.p, h.c, h.m, List.replicate (T - 1) 0⟩ v A X hX (blank_fit _ _ _ _)
          rwa [room_short hmb A (by omega)] at this
        rw [hT] at htot
        obtain ⟨mk, hmk, hbl⟩ : ∃ mk : Array Value, (∀ u : World, (Instr.makeSlice 24 (.int .i64 (T : Int)) (.int .i64 (T : Int))).run Try.prog u = .ok (.slice (some ⟨u.heap.size, 0, .none⟩) T T) (u.alloc (.cells mk 41))) ∧ Hid (∀ u : World, RdZ .u64 (u.alloc (.cells mk 41)) (.slice (some ⟨u.heap.size, 0, .none⟩) T T) (List.replicate T 0)) := ⟨_, make_us T (by omega), Lib.hid (blank_rd T (by omega))⟩
        replace hmay := Lib.hid hmay
        replace htot := Lib.hid htot
        have hT4 : T ≤ 1196 := by omega
        clear hmb hbad hmono hT htb hbd
        have hrun := refRun_any A
        have hpv : pagesV A = if wi A 33 512 = true then runV A else 1 := rfl
        generalize pagesV A = pg at *
        generalize wi A 33 512 = wb at *
        generalize runV A = rv at *
        replace hrun := Lib.hid hrun
        replace hpv := Lib.hid hpv
        go_wp2_with fail
        refine (hmay.out _).mono ?_
        rintro e w2 ⟨rfl, hw⟩
        have hB2 : Below V.heap.size V w2 := hw ▸ (Below.refl _ _).alloc (Nat.le_refl _) _
        clear hw
        have c0 := keepF hB2 _ _ _ c0
        have c1 := keepF hB2 _ _ _ c1
        have c2 := keepF hB2 _ _ _ c2
        go_wp2_with fail
        refine (htot.out _).mono ?_
        rintro e w3 ⟨rfl, hb3⟩
        have hB3 := hB2.trans (hb3.mono hB2.size)
        have hbk := hbl.out w3
        have hB4 := hB3.alloc hB3.size (.cells mk 41)
        go_upto_region 12 with fail
        generalize hG : w3.heap.size = G at hbk ⊢
        replace hG := Lib.hid hG
        generalize w3.alloc (.cells mk 41) = U at *
        have c0 := keepF hB4 _ _ _ ‹V.cell? ⟨H, 0, .none⟩ = some (.int .i64 h.p)›
        have c1 := keepF hB4 _ _ _ ‹V.cell? ⟨H, 1, .none⟩ = some (.int .i64 h.c)›
        have c2 := keepF hB4 _ _ _ ‹V.cell? ⟨H, 2, .none⟩ = some (.int .i64 h.m)›
        have lU : H < U.heap.size := by have := hB4.size; omega
        have hBU := hBe.trans (hB4.mono hBe.size)
        clear hB2 hB3 hb3 hmk hbl hmay htot
        go_wp2_with fail
        refine (hrun.out _).mono ?_
        rintro e w4 ⟨rfl, hw⟩
        obtain rfl := hw.symm
        clear hw hrun
        go_upto_if 64 with fail
        go_cut [12] (fun s wx => s = .int .i64 pg ∧ wx = U)
        case first =>
          rcases Bool.eq_false_or_eq_true wb with hwi | hwi
          · subst hwi
            go_wp2_with fail
            go_meet
            case rel => exact ⟨by rw [hpv.out]; rfl, rfl⟩
          · subst hwi
            go_wp2_with fail
            go_meet
            case rel => exact ⟨by rw [hpv.out]; rfl, rfl⟩
        case rest =>
          obtain ⟨rfl, hw⟩ := hcut
          obtain rfl := hw.symm
          clear hw
          have wT : IntKind.i64.wrap ((T : Int) - 1) = (T : Int) - 1 := IntWalk.i64_in _ ⟨by omega, by omega⟩
          have q0 : (0 : Int) ≤ (T : Int) - 1 := by omega
          have q1 : (T : Int) - 1 ≤ (T : Int) := by omega
          have q2 : ((T : Int) - 1).toNat = T - 1 := by omega
          have hbs := RdZ.head hbk (j := T - 1) (by omega)
          replace hbs := Lib.hid hbs
          replace hbk := Lib.hid hbk
          rcases Bool.eq_false_or_eq_true (decide (pg ≤ h.p)) with hd | hd <;>
          · rw [hd] at hr1
            go_upto_region 15 with fail
            refine wp_region_ext (by kernel_rfl) (by kernel_rfl) ?_
            repeat (go_big_quiet_step ((first
              | (go_at_call_of 10 (Value.int .i64 0); exact ext_of (hr2.out _ _ (RdZ.below hbk.out (Ext.below _))))
              | (go_at_call_of 10 (Value.int .i64 513); exact ext_of (hr3.out _ _ (RdZ.below hbk.out (Ext.below _))))
              | (go_at_call 10; exact ext_of (hr1.out _ _ (RdZ.below hbk.out (Ext.below _))))
              | (go_at_call 10; exact ext_of (hr4.out _ _ (RdZ.below hbs.out (Ext.below _)))))))
            refine wpQuiet_nil ?_
            rintro _ ⟨e, rfl⟩
            go_wp2
            go_ret
            exact ⟨rfl, hBU.trans (e.below.mono hBU.size)⟩
end Go.Proofs.Ytfknaheijidhcaa

/- The law AuditSums: the walk. -/
import Derived.Test.YtfknaheijidhcaaAudT

import Derived.Test.YtfknaheijidhcaaAudQ

import Derived.Deep.CutBlock

namespace Go.Proofs.Ytfknaheijidhcaa

open Go.RowKit

attribute [local go_sem ↓] Go.wp_at_zero Go.wp_at_succ

theorem Hp.bl_bd (h : Hp) : ∀ b ∈ h.bl, 0 ≤ b.n ∧ b.n ≤ 512 := by
  intro b hb
  unfold Hp.bl at hb
  split at hb
  · obtain ⟨a, _, hb⟩ := Hp.mem_blT.1 hb
    unfold Hp.pgB at hb
    split at hb
    · rename_i h3
      have hp := Hp.pb_of (h := h) (a := a) (by rw [h3]; decide)
      have := Hp.kind3 (h := h) (a := a) (by rw [hp, h3]; rfl)
      have hb := List.mem_singleton.1 hb
      subst hb
      simp only; omega
    · split at hb
      · obtain ⟨i, _, _, rfl⟩ := Hp.mem_slB.1 hb
        have := size_bd (h.pa a)
        simp only; omega
      · cases hb
  · cases hb
theorem Hp.bl_len (h : Hp) : h.bl.length ≤ 1024 := by
  unfold Hp.bl
  split
  · rename_i ho
    have hm : mayB h.p h.c h.m = true := by unfold Hp.ok at ho; rw [Bool.and_eq_true] at ho; exact ho.1
    have hb := mayB_iff.1 hm
    have := h.blT_len h.p.toNat
    omega
  · simp
theorem usedB_bd {l : List Bk} (hb : ∀ b ∈ l, 0 ≤ b.n ∧ b.n ≤ 512) : 0 ≤ usedB l ∧ usedB l ≤ 512 * l.length := by
  induction l with
  | nil => simp [usedB]
  | cons b l ih =>
    have h1 := hb b (by simp)
    have h2 := ih fun b hb' => hb b (by simp [hb'])
    have : usedB (b :: l) = b.n + usedB l := by simp [usedB]
    rw [this, List.length_cons]; omega
theorem usedB_next {l : List Bk} {i : Nat} (hi : i < l.length) : usedB (l.take (i + 1)) = usedB (l.take i) + l[i].n := by
  rw [List.take_succ_eq_append_getElem hi]
  unfold usedB
  rw [List.map_append, List.sum_append]; simp
theorem sm_bd (f : Nat → Bool) (n : Nat) : 0 ≤ sm (fun x => one (f x)) n ∧ sm (fun x => one (f x)) n ≤ n := by
  induction n with
  | zero => simp [sm]
  | succ n ih =>
    simp only [sm]
    have : 0 ≤ one (f n) ∧ one (f n) ≤ 1 := by unfold one; split <;> omega
    omega

set_option maxRecDepth 100000 in
set_option maxHeartbeats 1000000 in
theorem auditSums_any (h : Hp) (v : Value) (w : World) (hr : RdZ .u64 w v h.xs) (hf : h.fit) :
    Calls Try.prog 7 #[shV h, v] w fun e w' => e = .returned (.bool true) ∧ Below w.heap.size w w' := by
  have hwords := fun X (hX : Below w.heap.size w X) => awords_any h v X (hr.below (w' := X) hX) hf
  have hblocks := fun X (hX : Below w.heap.size w X) => ablocks_any h v X (hr.below (w' := X) hX) hf
  have hholder := fun a X (hX : Below w.heap.size w X) => holderW_any h v a X (hr.below (w' := X) hX) hf
  have hsound := fun X (hX : Below w.heap.size w X) => soundAll_any h v X (hr.below (w' := X) hX) hf
  have hokv : h.ok = (mayB h.p h.c h.m && decide (totalV h.p h.c h.m ≤ (h.xs.length : Int))) := rfl
  obtain ⟨ao, cap, hv, hcap, hcm, _⟩ := hr.cells
  obtain ⟨N, hN⟩ : ∃ N, N = h.xs.length := ⟨_, rfl⟩
  rw [← hN] at hv hcap hokv
  subst hv
  have t1 := heap_alloc_new w (.cells #[.int .i64 h.p, .int .i64 h.c, .int .i64 h.m] 23)
  have t2 := (Below.refl w.heap.size w).alloc (Nat.le_refl _) (.cells #[.int .i64 h.p, .int .i64 h.c, .int .i64 h.m] 23)
  by_cases hlong : 3000 < N
  · have h1 : (3000 : Int) < (N : Int) := by omega
    clear hwords hblocks hholder hsound hokv
    replace hN := Lib.hid hN
    go_enter Try.func7, Try.ntmps7
    go_wp2_with (go_at_call 9; refine (awake_any _).mono ?_; rintro e w1 ⟨rfl, hb1⟩)
    go_ret
    exact ⟨rfl, t2.trans (hb1.mono t2.size)⟩
  · have hN3 : N ≤ 3000 := by omega
    have hlen : ¬ (3000 : Int) < (N : Int) := by omega
    replace hN := Lib.hid hN
    replace hwords := Lib.hid hwords
    replace hblocks := Lib.hid hblocks
    replace hholder := Lib.hid hholder
    replace hsound := Lib.hid hsound
    replace hokv := Lib.hid hokv
    clear hlong
    go_enter Try.func7, Try.ntmps7
    go_wp2_with fail
    refine (awake_any _).mono ?_
    rintro e w1 ⟨rfl, hb1⟩
    have hB := t2.trans (hb1.mono t2.size)
    have s0 := (hb1.block _ (by simp)).trans t1
    obtain ⟨H, hH, hH'⟩ : ∃ H, Hid (H = w.heap.size) ∧ H = w.heap.size := ⟨_, Lib.hid rfl, rfl⟩
    rw [← hH'] at s0 ⊢
    have lS : H < w1.heap.size := (Array.getElem?_eq_some_iff.1 s0).1
    have c0 : w1.cell? ⟨H, 0, .none⟩ = some (.int .i64 h.p) := rowCells s0 0
    have c1 : w1.cell? ⟨H, 1, .none⟩ = some (.int .i64 h.c) := rowCells s0 1
    have c2 : w1.cell? ⟨H, 2, .none⟩ = some (.int .i64 h.m) := rowCells s0 2
    clear hH' s0 t1 t2 hb1
    go_wp2_with fail
    refine (hwords.out _ hB).mono ?_
    rintro e w2 ⟨rfl, hb2⟩
    go_upto_region 6 with fail
    have hbn : Below w1.heap.size w1 (w2.alloc (.cells #[.int .i64 h.count.f, .int .i64 h.count.t, .int .i64 h.count.l, .int .i64 h.count.o] 44)) := hb2.alloc hb2.size _
    have hcn : CntAt (w2.alloc (.cells #[.int .i64 h.count.f, .int .i64 h.count.t, .int .i64 h.count.l, .int .i64 h.count.o] 44)) w2.heap.size h.count := heap_alloc_new w2 _
    generalize w2.alloc (.cells #[.int .i64 h.count.f, .int .i64 h.count.t, .int .i64 h.count.l, .int .i64 h.count.o] 44) = W at *
    obtain ⟨G, hG, hG'⟩ : ∃ G, Hid (G = w2.heap.size) ∧ G = w2.heap.size := ⟨_, Lib.hid rfl, rfl⟩
    rw [← hG'] at hcn ⊢
    have hBW := hB.trans (hbn.mono hB.size)
    have c0 := keepF hbn _ _ _ c0
    have c1 := keepF hbn _ _ _ c1
    have c2 := keepF hbn _ _ _ c2
    have lW : H < W.heap.size := by have := hbn.size; omega
    clear hbn hG hG' hb2
    have hmay := fun X => refMay_any h.p h.c h.m X
    have htot := fun X => refTotal_any h.p h.c h.m X
    generalize totalV h.p h.c h.m = T at *
    have hcok : h.ok = false → h.count = Cn.zero := fun ho => by unfold Hp.count; rw [ho]; rfl
    have hmb2 : mayB h.p h.c h.m = true → 1 ≤ h.p ∧ h.p ≤ 64 := fun hm => by have := mayB_iff.1 hm; omega
    have hcs : Hid (h.ok = true → h.count.f + h.count.t + h.count.l + h.count.o = h.p * 64 ∧ h.count.nn) := Lib.hid fun ho => by
      unfold Hp.count
      rw [if_pos ho]
      have h1 := h.cn_sum h.p.toNat
      have hm : mayB h.p h.c h.m = true := by unfold Hp.ok at ho; rw [Bool.and_eq_true] at ho; exact ho.1
      have := mayB_iff.1 hm
      unfold Cn.sum at h1
      exact ⟨by omega, h.cn_nn _⟩
    have hcut : mayB h.p h.c h.m = false ∨ (mayB h.p h.c h.m = true ∧ N < T) ∨ (mayB h.p h.c h.m = true ∧ ¬ N < T) := by
      rcases Bool.eq_false_or_eq_true (mayB h.p h.c h.m) with hm | hm
      · by_cases hl : (N : Int) < T
        · exact .inr (.inl ⟨hm, hl⟩)
        · exact .inr (.inr ⟨hm, hl⟩)
      · exact .inl hm
    have heqz : ∀ X, (binOp .eql 44 (.agg #[.int .i64 0, .int .i64 0, .int .i64 0, .int .i64 0]) (.agg #[.int .i64 0, .int .i64 0, .int .i64 0, .int .i64 0])).run Try.prog X = .ok (.bool true) X := fun X => by kernel_rfl
    rcases hcut with hm | ⟨hm, hl⟩ | ⟨hm, hl⟩
    · have hz := hcok (by rw [hokv.out, hm]; rfl)
      rw [hz] at hcn
      rw [hm] at hmay
      replace hmay := Lib.hid hmay
      clear htot
      go_wp2_with fail
      refine (hmay.out _).mono ?_
      rintro e w3 ⟨rfl, hw⟩
      have hb3 : Below W.heap.size W w3 := hw ▸ (Below.refl _ _).alloc (Nat.le_refl _) _
      clear hw
      have hcn3 := hcn.below hb3
      have n0 : w3.cell? ⟨G, 0, .none⟩ = some (.int .i64 0) := hcn3.c0
      have n1 : w3.cell? ⟨G, 1, .none⟩ = some (.int .i64 0) := hcn3.c1
      have n2 : w3.cell? ⟨G, 2, .none⟩ = some (.int .i64 0) := hcn3.c2
      have n3 : w3.cell? ⟨G, 3, .none⟩ = some (.int .i64 0) := hcn3.c3
      go_wp2
      go_ret
      exact ⟨rfl, hBW.trans (hb3.mono hBW.size)⟩
    · have hz := hcok (by rw [hokv.out, hm, decide_eq_false (by omega)]; rfl)
      rw [hz] at hcn
      rw [hm] at hmay
      replace hmay := Lib.hid hmay
      replace htot := Lib.hid htot
      go_wp2_with fail
      refine (hmay.out _).mono ?_
      rintro e w3 ⟨rfl, hw⟩
      have hb3 : Below W.heap.size W w3 := hw ▸ (Below.refl _ _).alloc (Nat.le_refl _) _
      clear hw
      have d0 := keepF hb3 _ _ _ c0
      have d1 := keepF hb3 _ _ _ c1
      have d2 := keepF hb3 _ _ _ c2
      go_wp2_with fail
      refine (htot.out _).mono ?_
      rintro e w4 ⟨rfl, hb4⟩
      have hb4 := hb3.trans (hb4.mono hb3.size)
      have hcn3 := hcn.below hb4
      have n0 : w4.cell? ⟨G, 0, .none⟩ = some (.int .i64 0) := hcn3.c0
      have n1 : w4.cell? ⟨G, 1, .none⟩ = some (.int .i64 0) := hcn3.c1
      have n2 : w4.cell? ⟨G, 2, .none⟩ = some (.int .i64 0) := hcn3.c2
      have n3 : w4.cell? ⟨G, 3, .none⟩ = some (.int .i64 0) := hcn3.c3
      go_wp2
      go_ret
      exact ⟨rfl, hBW.trans (hb4.mono hBW.size)⟩
    · have hok : h.ok = true := by rw [hokv.out, hm, decide_eq_true (by omega)]; rfl
      obtain ⟨hsum, hnn⟩ := hcs.out hok
      obtain ⟨bp0, bp1⟩ := hmb2 hm
      obtain ⟨P, hP⟩ : ∃ P : Nat, Hid (h.p = P) := ⟨h.p.toNat, Lib.hid (by omega)⟩
      have hq1 : usedB h.bl = h.count.t ∨ h.sound = false := by
        rcases Bool.eq_false_or_eq_true h.sound with hs | hs
        · exact .inl (Hp.bl_used hs)
        · exact .inr hs
      have hq2 : sm (fun a => one (h.holdB (a : Nat))) (64 * P) = h.count.l + h.count.o ∨ h.sound = false := by
        rcases Bool.eq_false_or_eq_true h.sound with hs | hs
        · obtain ⟨P', hP', hh⟩ := Hp.held_all hs
          have : P' = P := by have := hP.out; omega
          subst this
          exact .inl hh
        · exact .inr hs
      have hbd := Cn.bd hnn (n := 4096) (by unfold Cn.sum; omega)
      replace hq1 := Lib.hid hq1
      replace hq2 := Lib.hid hq2
      replace hsum := Lib.hid hsum
      have hld := h.bl_bd
      have hll := h.bl_len
      generalize h.bl = bs at *
      generalize h.count = C at *
      rw [hm] at hmay
      replace hmay := Lib.hid hmay
      replace htot := Lib.hid htot
      clear hcok hcs hmb2 heqz hokv hm
      go_wp2_with fail
      refine (hmay.out _).mono ?_
      rintro e w3 ⟨rfl, hw⟩
      have hb3 : Below W.heap.size W w3 := hw ▸ (Below.refl _ _).alloc (Nat.le_refl _) _
      clear hw
      have d0 := keepF hb3 _ _ _ c0
      have d1 := keepF hb3 _ _ _ c1
      have d2 := keepF hb3 _ _ _ c2
      go_wp2_with fail
      refine (htot.out _).mono ?_
      rintro e w4 ⟨rfl, hb4⟩
      have hb4 := hb3.trans (hb4.mono hb3.size)
      have c0 := keepF hb4 _ _ _ c0
      have c1 := keepF hb4 _ _ _ c1
      have c2 := keepF hb4 _ _ _ c2
      have hcn := hcn.below hb4
      have hBW := hBW.trans (hb4.mono hBW.size)
      clear hb3 hb4 d0 d1 d2 htot hmay
      go_wp2_with fail
      refine (hblocks.out _ hBW).mono ?_
      rintro e w5 ⟨bv, rfl, hb5, ho5⟩
      have c0 := keepF hb5 _ _ _ c0
      have c1 := keepF hb5 _ _ _ c1
      have c2 := keepF hb5 _ _ _ c2
      have hcn := hcn.below hb5
      have hBW := hBW.trans (hb5.mono hBW.size)
      have hrk : RdK w5 bv bs := RdS.of_own ho5
      obtain ⟨ko, kcap, rfl, hkcap, hkm, hkrow⟩ := hrk.nth
      obtain ⟨K, hK, hK'⟩ : ∃ K, Hid (K = bs.length) ∧ K = bs.length := ⟨_, Lib.hid rfl, rfl⟩
      rw [← hK'] at hkcap hll ⊢
      have hus : Hid (∀ i, (hi : i < bs.length) → (0 ≤ usedB (bs.take i) ∧ usedB (bs.take i) ≤ 524288) ∧ usedB (bs.take (i + 1)) = usedB (bs.take i) + bs[i].n ∧ 0 ≤ bs[i].n ∧ bs[i].n ≤ 512) := Lib.hid fun i hi => by
        have h1 := usedB_bd (l := bs.take i) fun b hb => hld b (List.mem_of_mem_take hb)
        have h2 : (bs.take i).length ≤ 1024 := by rw [List.length_take]; omega
        have h3 := hld _ (List.getElem_mem hi)
        exact ⟨⟨h1.1, by omega⟩, usedB_next hi, h3.1, h3.2⟩
      clear hK' hb5 ho5 hrk hld
      replace hkrow := Lib.hid hkrow
      go_wp2_with fail
      go_loopw [6, 9] (fun vt vi wr => ∃ i : Nat, i ≤ K ∧ vi = .int .i64 i ∧ vt = .int .i64 (usedB (bs.take i)) ∧ wr = w5) (fun _ vi _ => K - (intOf vi).toNat)
      case atStart => exact ⟨0, Nat.zero_le _, rfl, by simp [usedB], rfl⟩
      case round =>
        obtain ⟨i, hi, rfl, rfl, hw⟩ := hrel
        obtain rfl := hw.symm
        clear hw
        by_cases hlt : i < K
        · have hil : i < bs.length := hK.out ▸ hlt
          obtain ⟨b, off, rfl, hb, hc⟩ := hkrow.out (fun e => by rw [e] at hil; simp at hil)
          obtain ⟨_, x1⟩ := hc i hil
          obtain ⟨u1, u2, u3, u4⟩ := hus.out i hil
          have hlt' : (i : Int) < (K : Int) := by omega
          have wi1 : IntKind.i64.wrap ((i : Int) + 1) = (i : Int) + 1 := IntWalk.i64_in _ ⟨by omega, by omega⟩
          clear hc
          generalize bs[i].n = bn at *
          generalize usedB (bs.take i) = U at *
          have wU : IntKind.i64.wrap (U + bn) = U + bn := IntWalk.i64_in _ ⟨by omega, by omega⟩
          replace u2 := Lib.hid u2
          go_wp2
          exact ⟨⟨i + 1, by omega, by go_num, by rw [u2.out], by first | rfl | trivial⟩, by simp [intOf]; omega⟩
        · have hie : i = K := by omega
          subst hie
          have hie : ¬ ((i : Int) < (i : Int)) := by omega
          rw [List.take_of_length_le (by rw [← hK.out]; exact Nat.le_refl _)]
          clear hkrow hus hlt
          have hp64 : IntKind.i64.wrap (h.p * 64) = h.p * 64 := IntWalk.i64_in _ ⟨by omega, by omega⟩
          have hsmb : Hid (∀ j, (0 ≤ sm (fun a => one (h.holdB (a : Nat))) j ∧ sm (fun a => one (h.holdB (a : Nat))) j ≤ j) ∧ sm (fun a => one (h.holdB (a : Nat))) (j + 1) = sm (fun a => one (h.holdB (a : Nat))) j + one (h.holdB (j : Nat))) := Lib.hid fun j => ⟨sm_bd (fun a => h.holdB (a : Nat)) j, rfl⟩
          have hsm0 : Hid (sm (fun a => one (h.holdB (a : Nat))) 0 = 0) := Lib.hid rfl
          generalize sm (fun a => one (h.holdB (a : Nat))) = sf at *
          go_wp2_with fail
          go_loopw [7, 10] (fun vh va wr => ∃ j : Nat, j ≤ 64 * P ∧ va = .int .i64 j ∧ vh = .int .i64 (sf j) ∧ Below w5.heap.size w5 wr) (fun _ va _ => 64 * P - (intOf va).toNat)
          case atStart => exact ⟨0, Nat.zero_le _, rfl, by rw [hsm0.out], Below.refl _ _⟩
          case round =>
            obtain ⟨j, hj, rfl, rfl, hbr⟩ := hrel
            have d0 := keepF hbr _ _ _ c0
            have d1 := keepF hbr _ _ _ c1
            have d2 := keepF hbr _ _ _ c2
            have hBr := hBW.trans (hbr.mono hBW.size)
            have hjP : (j : Int) < h.p * 64 → j < 64 * P := fun e => by have := hP.out; omega
            have hjQ : ¬ (j : Int) < h.p * 64 → j = 64 * P := fun e => by have := hP.out; omega
            by_cases hlt : (j : Int) < h.p * 64
            · have hjP := hjP hlt
              clear hjQ
              have hx := hholder.out j _ hBr
              obtain ⟨⟨z0, z1⟩, z2⟩ := hsmb.out j
              generalize h.holdB (j : Nat) = hbj at *
              generalize h.holdC (j : Nat) = hcj at *
              replace hx := Lib.hid hx
              have wj1 : IntKind.i64.wrap ((j : Int) + 1) = (j : Int) + 1 := IntWalk.i64_in _ ⟨by omega, by omega⟩
              have wU : IntKind.i64.wrap (sf j + 1) = sf j + 1 := IntWalk.i64_in _ ⟨by omega, by omega⟩
              rcases Bool.eq_false_or_eq_true hbj with hbj | hbj
              · subst hbj
                rw [one_true] at z2
                replace z2 := Lib.hid z2
                go_wp2_with fail
                refine hx.out.mono ?_
                rintro e w6 ⟨rfl, hb6⟩
                go_wp2
                exact ⟨⟨j + 1, by omega, by go_num, by rw [z2.out], hbr.trans (hb6.mono hbr.size)⟩, by simp [intOf]; omega⟩
              · subst hbj
                rw [one_false, Int.add_zero] at z2
                replace z2 := Lib.hid z2
                go_wp2_with fail
                refine hx.out.mono ?_
                rintro e w6 ⟨rfl, hb6⟩
                go_wp2
                exact ⟨⟨j + 1, by omega, by go_num, by rw [z2.out], hbr.trans (hb6.mono hbr.size)⟩, by simp [intOf]; omega⟩
            · have hje := Lib.hid (hjQ hlt)
              clear hjP hjQ
              go_wp2_with fail
              refine (hsound.out _ hBr).mono ?_
              rintro e w6 ⟨⟨r, rfl, hr1, _⟩, hb6⟩
              have hB6 := hbr.trans (hb6.mono hbr.size)
              have hcn := hcn.below hB6
              have c0 := keepF hB6 _ _ _ c0
              have n0 := hcn.c0
              have n1 := hcn.c1
              have n2 := hcn.c2
              have n3 := hcn.c3
              have hBW := hBW.trans (hB6.mono hBW.size)
              have v1 : IntKind.i64.wrap (C.f + C.t) = C.f + C.t := IntWalk.i64_in _ ⟨by omega, by omega⟩
              have v2 : IntKind.i64.wrap (C.f + C.t + C.l) = C.f + C.t + C.l := IntWalk.i64_in _ ⟨by omega, by omega⟩
              have v3 : IntKind.i64.wrap (C.f + C.t + C.l + C.o) = C.f + C.t + C.l + C.o := IntWalk.i64_in _ ⟨by omega, by omega⟩
              have v4 : IntKind.i64.wrap (C.l + C.o) = C.l + C.o := IntWalk.i64_in _ ⟨by omega, by omega⟩
              clear d0 d1 d2 c1 c2 hsmb hsm0 hbr hb6 hB6 hlt
              have hje := hje.out
              subst hje
              have hqs := hsum.out
              rcases Bool.eq_false_or_eq_true r with hrb | hrb
              · have hsd := hr1 hrb
                have e1 : usedB bs = C.t := hq1.out.resolve_right (by rw [hsd]; decide)
                have e2 : sf (64 * P) = C.l + C.o := hq2.out.resolve_right (by rw [hsd]; decide)
                subst hrb
                clear hr1 hsd hq1 hq2
                go_wp2
                go_ret
                exact ⟨rfl, hBW⟩
              · subst hrb
                clear hr1 hq1 hq2
                go_wp2
                go_ret
                exact ⟨rfl, hBW⟩
end Go.Proofs.Ytfknaheijidhcaa

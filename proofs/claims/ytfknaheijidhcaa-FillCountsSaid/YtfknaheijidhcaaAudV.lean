/- The walk of package audit's Words. -/
import Derived.Test.YtfknaheijidhcaaAudY

namespace Go.Proofs.Ytfknaheijidhcaa

open Go.RowKit

attribute [local go_sem ↓] Go.wp_at_zero Go.wp_at_succ

set_option maxRecDepth 100000 in
set_option maxHeartbeats 8000000 in
theorem awords_any (h : Hp) (v : Value) (w : World) (hr : RdZ .u64 w v h.xs) (hf : h.fit) :
    Calls Try.prog 25 #[shV h, v] w fun e w' => e = .returned (.agg #[.int .i64 h.count.f, .int .i64 h.count.t, .int .i64 h.count.l, .int .i64 h.count.o]) ∧ Below w.heap.size w w' := by
  obtain ⟨ao, cap, hv, _, _, _⟩ := hr.cells
  generalize h.xs.length = n at hv
  subst hv
  have hop := fun X hX => open_any h (.slice ao n cap) X (hr.below (w' := X) hX)
  have hcv : h.count = if h.ok = true then h.cn h.p.toNat else Cn.zero := rfl
  obtain ⟨S, hS⟩ : ∃ S : Obj, S = .cells #[.int .i64 h.p, .int .i64 h.c, .int .i64 h.m] 23 := ⟨_, rfl⟩
  obtain ⟨Z, hZ⟩ : ∃ Z : Obj, Z = .cells #[.int .i64 0, .int .i64 0, .int .i64 0, .int .i64 0] 44 := ⟨_, rfl⟩
  obtain ⟨t1, t2, t3, t4, t5⟩ := three_blocks w S Z Z
  rcases Bool.eq_false_or_eq_true h.ok with hok | hok
  case inr =>
    rw [hok] at hop
    rw [hcv, hok, if_neg Bool.false_ne_true]
    replace hop := Lib.hid hop
    subst hS hZ
    go_enter Try.func25, Try.ntmps25
    go_wp2_with fail
    refine (hop.out _ t5).mono ?_
    rintro e w1 ⟨rfl, hb1⟩
    have hb2 := hb1.alloc hb1.size (.cells #[.int .i64 h.p, .int .i64 h.c, .int .i64 h.m, .slice ao n cap] 72)
    have r1 := (hb2.block _ (by rw [t4]; omega)).trans t2
    have r2 := (hb2.block _ (by rw [t4]; omega)).trans t3
    have hB := t5.trans (hb2.mono t5.size)
    have a0 := (rowCells r1 0).trans (show _ = some (.int .i64 0) from rfl)
    have a1 := (rowCells r1 1).trans (show _ = some (.int .i64 0) from rfl)
    have a2 := (rowCells r1 2).trans (show _ = some (.int .i64 0) from rfl)
    have a3 := (rowCells r1 3).trans (show _ = some (.int .i64 0) from rfl)
    have aF := rowFree r1
    have b0 := (rowCells r2 0).trans (show _ = some (.int .i64 0) from rfl)
    have b1 := (rowCells r2 1).trans (show _ = some (.int .i64 0) from rfl)
    have b2 := (rowCells r2 2).trans (show _ = some (.int .i64 0) from rfl)
    have b3 := (rowCells r2 3).trans (show _ = some (.int .i64 0) from rfl)
    go_upto_region 3 with fail
    generalize w1.alloc (.cells #[.int .i64 h.p, .int .i64 h.c, .int .i64 h.m, .slice ao n cap] 72) = W at *
    obtain ⟨H, hH, hH'⟩ : ∃ H, Hid (H = w.heap.size) ∧ H = w.heap.size := ⟨_, Lib.hid rfl, rfl⟩
    rw [← hH'] at a0 a1 a2 a3 b0 b1 b2 b3 aF hB ⊢
    clear hH' t1 t2 t3 t4 t5 r1 r2 hb1 hb2
    have hHR : H ≤ H + 1 := by omega
    have hRN : H + 1 ≠ H + 1 + 1 := by omega
    generalize H + 1 + 1 = N at *
    generalize H + 1 = R at *
    go_wp2
    exact bodyPost_ret (v := .agg #[.int .i64 0, .int .i64 0, .int .i64 0, .int .i64 0]) (by simp [results, Try.results25, go_sem, a0, a1, a2, a3]) rfl ⟨rfl, by rw [← hH.out]; exact ((((hB.setCell hHR _).setCell hHR _).setCell hHR _).setCell hHR _)⟩
  case inl =>
    have b : Bok w (.slice ao n cap) h := ⟨hok, hr, hf⟩
    obtain ⟨bp, _, _, _⟩ := b.bd
    rw [hok] at hop
    rw [hcv, hok, if_pos rfl]
    have hpg := fun a X (hX : Below w.heap.size w X) ha => page_any h (.slice ao n cap) a X (b.below hX) ha
    have hho := fun a X (hX : Below w.heap.size w X) ha => holder_any h (.slice ao n cap) a X (b.below hX) ha
    have hlv := fun x X (hX : Below w.heap.size w X) => lives_any h (.slice ao n cap) x X (b.below hX)
    obtain ⟨P, hP⟩ : ∃ P : Nat, Hid (h.p = P) := ⟨h.p.toNat, Lib.hid (by omega)⟩
    have hPt : h.p.toNat = P := by have := hP.out; omega
    rw [hPt]
    clear hPt
    have hcnS : ∀ k : Nat, h.cn (k + 1) = (h.cn k).add (h.pgC k) := fun _ => rfl
    have hcnB : ∀ k : Nat, k ≤ 64 → (h.cn k).nn ∧ (h.cn k).sum ≤ 4096 := fun k hk => ⟨h.cn_nn k, by rw [h.cn_sum]; omega⟩
    have hpC : ∀ a : Int, h.pgC a = if (h.hb a || !h.pb a) = true then heldC (h.hb a && h.lv (h.hc a)) 64 else if h.pk a = 0 then ⟨64, 0, 0, 0⟩ else if h.pk a = 2 then h.slS a (sizeV (h.pa a)) (slotsV (h.pa a)).toNat else ⟨0, 64, 0, 0⟩ := fun _ => rfl
    replace hop := Lib.hid hop
    replace hpg := Lib.hid hpg
    replace hho := Lib.hid hho
    replace hlv := Lib.hid hlv
    replace hcnS := Lib.hid hcnS
    replace hcnB := Lib.hid hcnB
    replace hpC := Lib.hid hpC
    replace hok := Lib.hid hok
    subst hS hZ
    go_enter Try.func25, Try.ntmps25
    go_wp2_with fail
    refine (hop.out _ t5).mono ?_
    rintro e w1 ⟨rfl, hb1⟩
    have hb2 := hb1.alloc hb1.size (.cells #[.int .i64 h.p, .int .i64 h.c, .int .i64 h.m, .slice ao n cap] 72)
    have r0 := (hb2.block _ (by rw [t4]; omega)).trans t1
    have r1 := (hb2.block _ (by rw [t4]; omega)).trans t2
    have r2 := (hb2.block _ (by rw [t4]; omega)).trans t3
    have r3 := heap_alloc_new w1 (.cells #[.int .i64 h.p, .int .i64 h.c, .int .i64 h.m, .slice ao n cap] 72)
    have hB := t5.trans (hb2.mono t5.size)
    have hsz1 := hb1.size
    go_upto_region 3 with fail
    obtain ⟨H, hH, hH'⟩ : ∃ H, Hid (H = w.heap.size) ∧ H = w.heap.size := ⟨_, Lib.hid rfl, rfl⟩
    obtain ⟨K, hK, hK'⟩ : ∃ K, Hid (K = w1.heap.size) ∧ K = w1.heap.size := ⟨_, Lib.hid rfl, rfl⟩
    rw [← hK'] at r3 ⊢
    rw [← hH'] at r0 r1 r2 ⊢
    have hKH : H + 2 < K := by rw [t4] at hsz1; omega
    have lS := (Array.getElem?_eq_some_iff.1 r0).1
    have lR := (Array.getElem?_eq_some_iff.1 r1).1
    have lK := (Array.getElem?_eq_some_iff.1 r3).1
    have hwH : w.heap.size ≤ H + 1 + 1 := by omega
    have hc0 : CntAt (w1.alloc (.cells #[.int .i64 h.p, .int .i64 h.c, .int .i64 h.m, .slice ao n cap] 72)) (H + 1 + 1) Cn.zero := r2
    clear hK' hH' t1 t2 t3 t4 t5 hb1 hb2 hsz1 r2
    generalize w1.alloc (.cells #[.int .i64 h.p, .int .i64 h.c, .int .i64 h.m, .slice ao n cap] 72) = W at *
    have s0 : W.cell? ⟨H, 0, .none⟩ = some (.int .i64 h.p) := rowCells r0 0
    have k0 : W.cell? ⟨K, 0, .none⟩ = some (.int .i64 h.p) := rowCells r3 0
    have k1 : W.cell? ⟨K, 1, .none⟩ = some (.int .i64 h.c) := rowCells r3 1
    have k2 : W.cell? ⟨K, 2, .none⟩ = some (.int .i64 h.m) := rowCells r3 2
    have k3 : W.cell? ⟨K, 3, .none⟩ = some (.slice ao n cap) := rowCells r3 3
    have hKN : K ≠ H + 1 + 1 := by omega
    have hHN : H ≠ H + 1 + 1 := by omega
    have hRN : H + 1 ≠ H + 1 + 1 := by omega
    rw [hP.out] at s0
    clear r0 r3
    have hwR : w.heap.size ≤ H + 1 := by have := hH.out; omega
    have hKN' : K < H + 1 + 1 ∨ H + 1 + 1 < K := by omega
    generalize H + 1 + 1 = N at *
    generalize H + 1 = R at *
    go_wp2_with fail
    go_loopw [24] (fun vi wr => ∃ i : Nat, i ≤ P ∧ vi = .int .i64 i ∧ Only (atN N) W wr ∧ CntAt wr N (h.cn i)) (fun vi _ => P - (intOf vi).toNat)
    case atStart => exact ⟨0, Nat.zero_le _, rfl, Only.refl _ _, hc0⟩
    case round =>
      obtain ⟨i, hi, rfl, hor, hcr⟩ := hrel
      have hBr := Only.below2 hB hor hB.size hwH
      have d0 := (hor.keepC lK hKN 0).trans k0
      have d1 := (hor.keepC lK hKN 1).trans k1
      have d2 := (hor.keepC lK hKN 2).trans k2
      have d3 := (hor.keepC lK hKN 3).trans k3
      by_cases hlt : i < P
      · have hpi : 0 ≤ (i : Int) ∧ (i : Int) < h.p := by have := hP.out; omega
        have hp64 : i ≤ 64 := by have := hP.out; omega
        obtain ⟨hnn, hsm⟩ := hcnB.out i hp64
        have hbd := Cn.bd hnn hsm
        have hstep := hcnS.out i
        rw [hpC.out] at hstep
        have hpa := hpg.out i wr hBr hpi
        have hha := fun X hX => hho.out i X hX hpi
        have hla := hlv.out (h.hc i)
        have hsb := fun X N c hX hN hc hn hs => bslots_any h (.slice ao n cap) i (h.pa i) w X N c b hpi hX hN hc hn hs
        generalize h.pk i = pk at *
        generalize h.pa i = pa at *
        generalize h.pn i = pn at *
        generalize h.pb i = pb at *
        generalize h.hb i = hb at *
        generalize h.hc i = hc at *
        generalize h.lv hc = lb at *
        generalize h.cn i = ci at *
        replace hpa := Lib.hid hpa
        replace hha := Lib.hid hha
        replace hla := Lib.hid hla
        replace hsb := Lib.hid hsb
        replace hpi := Lib.hid hpi
        have fin : Hid (∀ X c, Only (atN N) W X → CntAt X N c → h.cn (i + 1) = c → ∃ j : Nat, j ≤ P ∧ Value.int .i64 ((i : Int) + 1) = .int .i64 j ∧ Only (atN N) W X ∧ CntAt X N (h.cn j)) :=
          Lib.hid fun X c ho hc e => ⟨i + 1, by omega, by go_num, ho, by rw [e]; exact hc⟩
        go_wp2_with fail
        refine hpa.out.mono ?_
        rintro e w3 ⟨rfl, hb3⟩
        have o3 : Only (atN N) W (w3.alloc (.cells #[.int .i64 pk, .int .i64 pa, .int .i64 pn] 79)) := (hor.trans (Only.of_below hb3) (fun _ _ h => h)).alloc _
        have hc3 := (hcr.below hb3).below ((Below.refl _ _).alloc (Nat.le_refl _) (.cells #[.int .i64 pk, .int .i64 pa, .int .i64 pn] 79))
        have g3 := heap_alloc_new w3 (.cells #[.int .i64 pk, .int .i64 pa, .int .i64 pn] 79)
        have hg3 : w3.heap.size ≠ N := by have := (hcr.below hb3).lt; omega
        go_upto_region 9 with fail
        generalize w3.heap.size = G at g3 hg3 ⊢
        generalize w3.alloc (.cells #[.int .i64 pk, .int .i64 pa, .int .i64 pn] 79) = W3 at *
        have lG := (Array.getElem?_eq_some_iff.1 g3).1
        have hB3 := Only.below2 hB o3 hB.size hwH
        have d0 := (o3.keepC lK hKN 0).trans k0
        have d1 := (o3.keepC lK hKN 1).trans k1
        have d2 := (o3.keepC lK hKN 2).trans k2
        have d3 := (o3.keepC lK hKN 3).trans k3
        go_wp2_with fail
        refine (hha.out _ hB3).mono ?_
        rintro e w4 ⟨rfl, hb4⟩
        have o4 := o3.trans (Only.of_below hb4) (fun _ _ h => h)
        have hc4 := hc3.below hb4
        have hB4 := Only.below2 hB o4 hB.size hwH
        have d0 := (o4.keepC lK hKN 0).trans k0
        have d1 := (o4.keepC lK hKN 1).trans k1
        have d2 := (o4.keepC lK hKN 2).trans k2
        have d3 := (o4.keepC lK hKN 3).trans k3
        have g4 := (hb4.block _ lG).trans g3
        have p0 : w4.cell? ⟨G, 0, .none⟩ = some (.int .i64 pk) := rowCells g4 0
        have p1 : w4.cell? ⟨G, 1, .none⟩ = some (.int .i64 pa) := rowCells g4 1
        have n0 := hc4.c0
        have n1 := hc4.c1
        have nF := hc4.fr
        clear hpa hha hb3 hb4 g3 g4 o3 hc3 hB3
        rcases Bool.eq_false_or_eq_true hb with hhb | hhb
        · subst hhb
          replace hstep : h.cn (i + 1) = ci.add (heldC lb 64) := hstep
          replace hstep := Lib.hid hstep
          go_wp2_with fail
          refine (hla.out _ hB4).mono ?_
          rintro e w5 ⟨rfl, hb5⟩
          have o5 := o4.trans (Only.of_below hb5) (fun _ _ h => h)
          have hc5 := hc4.below hb5
          go_wp2_with fail
          refine (add_any _ _ ci lb 64 hc5 hnn (by omega) (by omega)).mono ?_
          rintro e w6 ⟨rfl, o6, hc6⟩
          go_wp2
          exact ⟨fin.out _ _ (o5.trans o6 (fun _ _ h => h)) hc6 hstep.out, by simp [intOf]; omega⟩
        · subst hhb
          rcases Bool.eq_false_or_eq_true pb with hpb | hpb
          · subst hpb
            rw [if_neg (by simp)] at hstep
            by_cases h0 : pk = 0
            · rw [if_pos h0] at hstep
              subst h0
              replace hstep := Lib.hid hstep
              have w4' : IntKind.i64.wrap (ci.f + 64) = ci.f + 64 := IntWalk.i64_in _ ⟨by omega, by omega⟩
              go_wp2
              refine ⟨fin.out _ _ (o4.setCell (p := ⟨N, 0, .none⟩) (.inl rfl) _) (hc4.set0 (ci.f + 64)) ?_, by simp [intOf]; omega⟩
              rw [hstep.out]; simp [Cn.add]
            · rw [if_neg h0] at hstep
              have h0' : (pk == 0) = false := by rw [beq_eq_false_iff_ne]; exact h0
              by_cases h2 : pk = 2
              · rw [if_pos h2] at hstep
                subst h2
                replace hstep := Lib.hid hstep
                go_wp2_with fail
                refine (hsb.out _ _ ci hB4 hwH hc4 hnn (by omega)).mono ?_
                rintro e w6 ⟨rfl, o6, hc6⟩
                go_wp2
                exact ⟨fin.out _ _ (o4.trans o6 (fun _ _ h => h)) hc6 hstep.out, by simp [intOf]; omega⟩
              · rw [if_neg h2] at hstep
                have h2' : (pk == 2) = false := by rw [beq_eq_false_iff_ne]; exact h2
                replace hstep := Lib.hid hstep
                have w4' : IntKind.i64.wrap (ci.t + 64) = ci.t + 64 := IntWalk.i64_in _ ⟨by omega, by omega⟩
                go_wp2
                refine ⟨fin.out _ _ (o4.setCell (p := ⟨N, 1, .none⟩) (.inl rfl) _) (hc4.set1 (ci.t + 64)) ?_, by simp [intOf]; omega⟩
                rw [hstep.out]; simp [Cn.add]
          · subst hpb
            replace hstep : h.cn (i + 1) = ci.add (heldC false 64) := hstep
            replace hstep := Lib.hid hstep
            go_wp2_with fail
            refine (add_any _ _ ci false 64 hc4 hnn (by omega) (by omega)).mono ?_
            rintro e w6 ⟨rfl, o6, hc6⟩
            go_wp2
            exact ⟨fin.out _ _ (o4.trans o6 (fun _ _ h => h)) hc6 hstep.out, by simp [intOf]; omega⟩
      · have hie : i = P := by omega
        subst hie
        clear hlt
        have hj0 : ¬ ((i : Int) < (i : Int)) := by omega
        have n0 := hcr.c0
        have n1 := hcr.c1
        have n2 := hcr.c2
        have n3 := hcr.c3
        have r1' := (hor.block _ lR hRN).trans r1
        have a0 := (rowCells r1' 0).trans (show _ = some (.int .i64 0) from rfl)
        have a1 := (rowCells r1' 1).trans (show _ = some (.int .i64 0) from rfl)
        have a2 := (rowCells r1' 2).trans (show _ = some (.int .i64 0) from rfl)
        have a3 := (rowCells r1' 3).trans (show _ = some (.int .i64 0) from rfl)
        have aF := rowFree r1'
        go_wp2
        exact bodyPost_ret (v := .agg #[.int .i64 (h.cn i).f, .int .i64 (h.cn i).t, .int .i64 (h.cn i).l, .int .i64 (h.cn i).o]) (by simp [results, Try.results25, go_sem, a0, a1, a2, a3]) rfl ⟨rfl, ((((hBr.setCell hwR _).setCell hwR _).setCell hwR _).setCell hwR _)⟩
end Go.Proofs.Ytfknaheijidhcaa

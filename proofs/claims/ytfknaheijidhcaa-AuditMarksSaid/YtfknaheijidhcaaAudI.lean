/- The walk of package audit's magazines. -/
import Derived.Test.YtfknaheijidhcaaAudG

import Derived.Test.YtfknaheijidhcaaAudM

import Derived.Test.YtfknaheijidhcaaAudY

namespace Go.Proofs.Ytfknaheijidhcaa

open Go.RowKit

attribute [local go_sem ↓] Go.wp_at_zero Go.wp_at_succ

theorem Bok.mags {w : World} {v : Value} {h : Hp} (b : Bok w v h) : ∃ ao cap, v = .slice ao h.xs.length cap ∧
    ∀ c i : Nat, (c : Int) < h.c → (i : Int) < h.m → ∃ (g off : Nat) (k : Nat), ao = some ⟨g, off, .none⟩ ∧ g < w.heap.size ∧ magIx h.p h.c h.m c i = (k : Int) ∧ k < h.xs.length ∧ ∃ x : Int, w.cell? ⟨g, off + k, .none⟩ = some (.int .u64 x) ∧ 0 ≤ x ∧ x < 18446744073709551616 := by
  obtain ⟨b1, b2, b3, b4⟩ := b.bd
  obtain ⟨ao, cap, hv, _, _, _⟩ := b.rd.cells
  refine ⟨ao, cap, hv, fun c i hc hi => ?_⟩
  have hcm := mul_bd (c := (c : Int)) (m := h.m) (C := h.c - 1) (M := h.m) (by omega) (by omega)
  have hmm : (h.c - 1) * h.m = h.c * h.m - h.m := by rw [Int.sub_mul, Int.one_mul]
  have h0 := mul_bd (c := h.c) (m := h.m) (C := 12) (M := 8) (by omega) (by omega)
  obtain ⟨g, off, cap', k, hv', _, hg, hk, hkn, hx⟩ := b.word (h.c + h.p + h.p * 16 + c * h.m + i) (by omega) (by omega)
  rw [hv] at hv'
  injection hv' with e1 _ _
  refine ⟨g, off, k, e1, hg, ?_, hkn, _, hx, h.wd_bd b.fit _⟩
  unfold magIx
  rw [if_pos ⟨b.may, wi_iff.2 (by omega), wi_iff.2 (by omega)⟩, hk]

/-- A map of pairs lies at block M. -/
def MapAt (w : World) (M : Nat) : Prop := ∃ es c, Pairs es ∧ w.heap[M]? = some (.map es c)
theorem MapAt.below {w w' : World} {M : Nat} (h : MapAt w M) (hb : Below w.heap.size w w') : MapAt w' M := by
  obtain ⟨es, c, hp, hm⟩ := h
  exact ⟨es, c, hp, (hb.block M (Array.getElem?_eq_some_iff.1 hm).1).trans hm⟩

/-- An answer that is true where there are no magazines. -/
def MagRet (m : Int) (e : Ending) : Prop := ∃ r : Bool, e = .returned (.bool r) ∧ (m = 0 → r = true)

set_option maxRecDepth 100000 in
set_option maxHeartbeats 8000000 in
theorem magazines_any (h : Hp) (v : Value) (w : World) (b : Bok w v h) :
    Calls Try.prog 52 #[bookV h v] w fun e w' => MagRet h.m e ∧ Below w.heap.size w w' := by
  obtain ⟨b1, b2, b3, b4⟩ := b.bd
  obtain ⟨ao, cap, hv, hword⟩ := b.mags
  have hma := fun x i => planMag_any h.p h.c h.m x i
  have hen := fun c x X (hX : Below w.heap.size w X) h0 h1 => entry_any h v c x X (b.below hX) h0 h1
  generalize h.xs.length = n at hv hword
  subst hv
  obtain ⟨C, hC⟩ : ∃ C : Nat, Hid (h.c = C) := ⟨h.c.toNat, Lib.hid (by omega)⟩
  obtain ⟨Q, hQ⟩ : ∃ Q : Nat, Hid (h.m = Q) := ⟨h.m.toNat, Lib.hid (by omega)⟩
  replace hword := Lib.hid hword
  replace hma := Lib.hid hma
  replace hen := Lib.hid hen
  clear b
  have hmk : ∀ u : World, (Instr.makeMap 105 none).run Try.prog u = .ok (.map (some u.heap.size)) (u.alloc (.map #[] 0)) := fun u => by rfl
  obtain ⟨t1, t2, t3, t4⟩ := two_blocks w (.cells #[.int .i64 h.p, .int .i64 h.c, .int .i64 h.m, .slice ao n cap] 72) (.map #[] 0)
  go_enter Try.func52, Try.ntmps52
  go_upto_region 2 with fail
  obtain ⟨H, hH, hH'⟩ : ∃ H, Hid (H = w.heap.size) ∧ H = w.heap.size := ⟨_, Lib.hid rfl, rfl⟩
  generalize (w.alloc (.cells #[.int .i64 h.p, .int .i64 h.c, .int .i64 h.m, .slice ao n cap] 72)).alloc (.map #[] 0) = W at *
  rw [← hH'] at t1 t2 t3 t4 ⊢
  have hwM : w.heap.size ≤ H + 1 := by omega
  have hHM : H ≠ H + 1 := by omega
  have lH : H < W.heap.size := by omega
  have lM : H + 1 < W.heap.size := by omega
  rw [hH'] at t4
  clear hH' t3
  generalize H + 1 = M at *
  have hm0 : MapAt W M := ⟨_, _, Pairs.nil, t2⟩
  have c0 : W.cell? ⟨H, 0, .none⟩ = some (.int .i64 h.p) := rowCells t1 0
  have c1 : W.cell? ⟨H, 1, .none⟩ = some (.int .i64 h.c) := rowCells t1 1
  have c2 : W.cell? ⟨H, 2, .none⟩ = some (.int .i64 h.m) := rowCells t1 2
  have c3 : W.cell? ⟨H, 3, .none⟩ = some (.slice ao n cap) := rowCells t1 3
  have C1 : W.cell? ⟨H, 1, .none⟩ = some (.int .i64 C) := by rw [c1, hC.out]
  replace C1 := Lib.hid C1
  clear t1 t2 hmk
  have lz : ∀ X, Only (atN M) W X → X.cell? ⟨H, 0, .none⟩ = some (.int .i64 h.p) ∧ X.cell? ⟨H, 1, .none⟩ = some (.int .i64 h.c) ∧ X.cell? ⟨H, 2, .none⟩ = some (.int .i64 h.m) ∧ X.cell? ⟨H, 3, .none⟩ = some (.slice ao n cap) ∧ Below w.heap.size w X := fun X ho =>
    ⟨(ho.keepC lH hHM 0).trans c0, (ho.keepC lH hHM 1).trans c1, (ho.keepC lH hHM 2).trans c2, (ho.keepC lH hHM 3).trans c3, Only.below2 t4 ho t4.size hwM⟩
  replace lz := Lib.hid lz
  clear C1
  go_wp2_with fail
  go_loopw [16] (fun vi wr => ∃ i : Nat, i ≤ C ∧ vi = .int .i64 i ∧ Only (atN M) W wr ∧ MapAt wr M) (fun vi _ => C - (intOf vi).toNat)
  case atStart => exact ⟨0, Nat.zero_le _, rfl, Only.refl _ _, hm0⟩
  case round =>
    obtain ⟨i, hi, rfl, hor, hmr⟩ := hrel
    obtain ⟨d0, d1, d2, d3, hBr⟩ := lz.out _ hor
    by_cases hlt : (i : Int) < h.c
    · have hiC : i < C := by have := hC.out; omega
      go_wp2_with fail
      obtain ⟨Wr, rfl⟩ : ∃ V : World, V = wr := ⟨_, rfl⟩
      go_loopw [22] (fun vj wr => ∃ j : Nat, j ≤ Q ∧ vj = .int .i64 j ∧ Only (atN M) W wr ∧ MapAt wr M) (fun vj _ => Q - (intOf vj).toNat)
      case atStart => exact ⟨0, Nat.zero_le _, rfl, hor, hmr⟩
      case round =>
        obtain ⟨j, hj, rfl, hoq, hmq⟩ := hrel
        obtain ⟨f0, f1, f2, f3, hBq⟩ := lz.out _ hoq
        by_cases hlj : (j : Int) < h.m
        · have hjQ : j < Q := by have := hQ.out; omega
          have hm1 : h.m = 0 → False := fun e => by omega
          obtain ⟨g, off, k, rfl, hg, hix, hkn, x, hx, hx0, hx1⟩ := hword.out i j hlt hlj
          have hmg := hma.out i j
          rw [hix] at hmg
          replace hx := keepF hBq _ _ _ hx
          have lHq : H < wr.heap.size := cell_lt f0
          have lgq : g < wr.heap.size := cell_lt hx
          have hk0 : (0 : Int) ≤ (k : Int) := by omega
          have hk1 : (k : Int) < (n : Int) := by omega
          have hi0 : (0 : Int) ≤ (i : Int) := by omega
          have hj0 : (0 : Int) ≤ (j : Int) := by omega
          have hee := fun X hX => hen.out i x X hX hx0 hx1
          replace hmg := Lib.hid hmg
          replace hee := Lib.hid hee
          clear hix d0 d1 d2 d3
          go_upto_region 8 with fail
          refine wp_region_ext (by kernel_rfl) (by kernel_rfl) ?_
          repeat (go_big_quiet_step ((go_at_call 78; exact ext_of (hmg.out _))))
          refine wpQuiet_nil ?_
          rintro _ ⟨e, rfl⟩
          have ho5 := hoq.trans (Only.of_below e.below) (fun _ _ h => h)
          have hm5 := hmq.below e.below
          clear hmq hoq f0 f1 f2 f3 hx lHq lgq hBq
          generalize e.w = V at *
          clear e
          obtain ⟨f0, f1, f2, f3, hB5⟩ := lz.out _ ho5
          by_cases hz : x = 0
          · have hz' : (x == 0) = true := by rw [beq_iff_eq]; exact hz
            go_wp2
            exact ⟨⟨j + 1, by omega, by go_num, ho5, hm5⟩, by simp [intOf]; omega⟩
          · have hz' : (x == 0) = false := by rw [beq_eq_false_iff_ne]; exact hz
            go_wp2_with fail
            refine (hee.out _ hB5).mono ?_
            rintro e w3 ⟨⟨e0, e1, e2, er, rfl⟩, hb3⟩
            have o3 := (ho5.trans (Only.of_below hb3) (fun _ _ h => h)).alloc (.cells #[.int .i64 e0, .int .i64 e1, .int .i64 e2] 107)
            have m3 := (hm5.below hb3).below ((Below.refl _ _).alloc (Nat.le_refl _) (.cells #[.int .i64 e0, .int .i64 e1, .int .i64 e2] 107))
            have o4 := o3.alloc (.cells #[.int .i64 e0, .int .i64 e1] 65)
            have m4 := m3.below ((Below.refl _ _).alloc (Nat.le_refl _) (.cells #[.int .i64 e0, .int .i64 e1] 65))
            have g4 := heap_alloc_new (w3.alloc (.cells #[.int .i64 e0, .int .i64 e1, .int .i64 e2] 107)) (.cells #[.int .i64 e0, .int .i64 e1] 65)
            go_upto_region 12 with fail
            rw [show (w3.alloc (.cells #[.int .i64 e0, .int .i64 e1, .int .i64 e2] 107)).heap.size = w3.heap.size + 1 from by simp] at g4
            generalize w3.heap.size + 1 = A at g4 ⊢
            generalize (w3.alloc (.cells #[.int .i64 e0, .int .i64 e1, .int .i64 e2] 107)).alloc (.cells #[.int .i64 e0, .int .i64 e1] 65) = U at *
            have a0 : U.cell? ⟨A, 0, .none⟩ = some (.int .i64 e0) := rowCells g4 0
            have a1 : U.cell? ⟨A, 1, .none⟩ = some (.int .i64 e1) := rowCells g4 1
            clear o3 m3 hb3 hee
            obtain ⟨es, cl, hps, hMU⟩ := m4
            obtain ⟨r, hlk, hup⟩ := map2 e0 e1 es hps
            have hl := hlk U M cl hMU
            replace hlk := Lib.hid hlk
            replace hup := Lib.hid hup
            have o5 := o4.alloc (.cells #[] 110)
            have hb5 : Below U.heap.size U (U.alloc (.cells #[] 110)) := (Below.refl _ _).alloc (Nat.le_refl _) _
            have a0 := keepF hb5 _ _ _ a0
            have a1 := keepF hb5 _ _ _ a1
            have hM5 := (hb5.block M (Array.getElem?_eq_some_iff.1 hMU).1).trans hMU
            go_upto_region 13 with fail
            clear hl hMU g4 hb5 o4
            generalize U.alloc (.cells #[] 110) = T at *
            have hBT := (lz.out _ o5).2.2.2.2
            rcases Bool.eq_false_or_eq_true er with he | he
            · subst he
              rcases Bool.eq_false_or_eq_true r with hr | hr
              · subst hr
                go_wp2
                go_ret
                exact ⟨⟨false, rfl, fun e => (hm1 e).elim⟩, hBT⟩
              · subst hr
                have hu := hup.out rfl T M cl hM5
                have o6 : Only (atN M) W (setMap T M (es.push ⟨.agg #[.int .i64 e0, .int .i64 e1], .agg #[], cl⟩) (cl + 1)) := o5.trans (F := atN M) (G := atN M) ⟨rfl, rfl, rfl, by rw [setMap_size]; exact Nat.le_refl _, fun q hq hqm => by
                  unfold setMap
                  simp only
                  rw [Array.getElem?_setIfInBounds_ne (fun e => hqm e.symm)]⟩ (fun _ _ h => h)
                have m6 : MapAt (setMap T M (es.push ⟨.agg #[.int .i64 e0, .int .i64 e1], .agg #[], cl⟩) (cl + 1)) M := ⟨_, _, hps.push e0 e1 cl, setMap_at _ _ (Array.getElem?_eq_some_iff.1 hM5).1⟩
                go_wp2
                exact ⟨⟨j + 1, by omega, by go_num, o6, m6⟩, by simp [intOf]; omega⟩
            · subst he
              go_wp2
              go_ret
              exact ⟨⟨false, rfl, fun e => (hm1 e).elim⟩, hBT⟩
        · have hje : j = Q := by have := hQ.out; omega
          subst hje
          go_wp2
          exact ⟨⟨i + 1, by omega, by go_num, hoq, hmq⟩, by simp [intOf]; omega⟩
    · have hie : i = C := by have := hC.out; omega
      subst hie
      go_wp2
      go_ret
      exact ⟨⟨true, rfl, fun _ => rfl⟩, hBr⟩
end Go.Proofs.Ytfknaheijidhcaa

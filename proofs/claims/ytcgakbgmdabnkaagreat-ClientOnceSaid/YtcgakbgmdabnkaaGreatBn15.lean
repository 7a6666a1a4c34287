/- The Seeker in memory: settle, New, Step, Found. -/
import Derived.Test.YtcgakbgmdabnkaaGreatBn14

set_option linter.all false
namespace Go.Proofs.YtcgakbgmdabnkaaGreat

open Go.RowKit

attribute [local go_sem ↓] Go.wp_at_zero Go.wp_at_succ

noncomputable def rkW (q : Nat) (w : World) : Nat := match w.cell? ⟨q, 11, .none⟩ with
  | some (.bool true) => 0
  | _ => match w.cell? ⟨q, 6, .none⟩ with
    | some (.iface T _) => if T = 253 then 4 else if T = 272 then 3 else if T = 274 then 2 else if T = 255 then 2 else 1
    | _ => 0
theorem rkW_eq {w : World} {q q2 : Nat} {s : Sh} {t : Sk} (h : SkAt w q q2 s t) : rkW q w = skRank t := by
  have c11 : w.cell? ⟨q, 11, .none⟩ = some (.bool t.done) := h.row.cell 11
  have c6 : w.cell? ⟨q, 6, .none⟩ = some (nowV t.now q2) := h.row.cell 6
  unfold rkW skRank
  rw [c11, c6]
  rcases Bool.eq_false_or_eq_true t.done with hd | hd <;> rw [hd]
  · rfl
  · simp only [Bool.false_eq_true, if_false]
    rcases t.now with _ | x
    · rfl
    · cases x <;> rfl
theorem run_neq_none (W : World) : (binOp .neq 250 .nilIface .nilIface).run Tryz.prog W = .ok (.bool false) W := by kernel_rfl
theorem run_neq_some (T : TypeId) (v : Value) (W : World) : (binOp .neq 250 (.iface T v) .nilIface).run Tryz.prog W = .ok (.bool true) W := by kernel_rfl
theorem run_eqg_none (W : World) : (eqGuard .neq 250 (.tmp 11) (.const .nilIface) .nilIface .nilIface).run Tryz.prog W = .ok () W := by kernel_rfl
theorem run_eqg_some (T : TypeId) (v : Value) (W : World) : (eqGuard .neq 250 (.tmp 11) (.const .nilIface) (.iface T v) .nilIface).run Tryz.prog W = .ok () W := by kernel_rfl
attribute [local go_sem ↓] run_neq_none run_neq_some run_eqg_none run_eqg_some

/-- A machine at hand tells whether it is done. -/
theorem mcDone_any (q2 : Nat) (s : Sh) (x : Mc) (w : World) (h : RowAt w q2 (mcCells s x) (mcT x)) (F : FuncId)
    (hF : F = match x with | .tk _ => 280 | .sc _ => 283 | .pc _ => 287 | .sp _ => 231 | .bn _ => 289) :
    Calls Tryz.prog F #[.pointer (some ⟨q2, 0, .none⟩)] w fun e w' => e = .returned (.bool x.done) ∧ w' = w := by
  subst hF
  cases x with
  | tk x => exact tkdone_any q2 _ _ w h rfl
  | sc x => exact scdone_any q2 _ _ w h rfl
  | pc x => exact pcdone_any q2 _ _ w h rfl
  | sp x => exact spdone_any q2 _ _ w h rfl
  | bn x => exact bndone_any q2 _ _ w h rfl
set_option maxRecDepth 100000 in
set_option maxHeartbeats 1000000 in
theorem sksettle_any (q q2 : Nat) (s : Sh) (t : Sk) (w : World) (h : SkAt w q q2 s t) (hp : 1 ≤ s.p ∧ s.p ≤ 64) (ho : skOk s t) :
    Calls Tryz.prog 162 #[.pointer (some ⟨q, 0, .none⟩)] w fun e w' => SkTurned q q2 w w' e s (skSettle s 5 t) := by
  obtain ⟨tF, htF, htF'⟩ : ∃ tF, Hid (tF = skSettle s 5 t) ∧ tF = skSettle s 5 t := ⟨_, Lib.hid rfl, rfl⟩
  rw [← htF']
  clear htF'
  have hlq : q < w.heap.size := h.row.lt
  go_enter Tryz.func162, Tryz.ntmps162
  go_wp2_with fail
  go_loopw [] (fun wr => ∃ tr q3, SkAt wr q q3 s tr ∧ skOk s tr ∧ Hid (tF = skSettle s 5 tr) ∧ (q3 = q2 ∨ w.heap.size ≤ q3) ∧ Only (fun k => k = q) w wr) (fun wr => rkW q wr)
  case atStart => exact ⟨t, q2, h, ho, htF, .inl rfl, Only.refl _ _⟩
  case round =>
    obtain ⟨tr, q3, hk, hok, hF, hq3, hO⟩ := hrel
    obtain ⟨Y, rfl⟩ : ∃ V : World, V = wr := ⟨_, rfl⟩
    have hlY : q < Y.heap.size := hk.row.lt
    have hrk := Lib.hid (rkW_eq hk)
    have c11 : Y.cell? ⟨q, 11, .none⟩ = some (.bool tr.done) := hk.row.cell 11
    have c6 : Y.cell? ⟨q, 6, .none⟩ = some (nowV tr.now q3) := hk.row.cell 6
    have hstop : Hid ((tr.done = true ∨ tr.now = none ∨ ∃ x, tr.now = some x ∧ x.done = false) → SkTurned q q2 w Y (.returned (.tuple #[])) s tF) := Lib.hid fun hh => by
      have e := hF.out.trans (skSettle_stop hh 5)
      exact ⟨rfl, ⟨q3, by rw [e]; exact hk, hq3⟩, hO⟩
    rcases Bool.eq_false_or_eq_true tr.done with hd | hd
    · rw [hd] at c11
      replace hstop := Lib.hid (hstop.out (.inl hd))
      clear hd h ho hok hk hO hp hF htF hq3 hrk
      go_wp2_with fail
      go_returns
      exact hstop.out
    rw [hd] at c11
    rcases hnw : tr.now with _ | x
    · rw [hnw] at c6
      replace hstop := Lib.hid (hstop.out (.inr (.inl hnw)))
      replace c6 : Y.cell? ⟨q, 6, .none⟩ = some .nilIface := c6
      clear hd h ho hok hk hO hp hF htF hq3 hrk hnw
      go_wp2_with fail
      go_returns
      exact hstop.out
    rw [hnw] at c6
    obtain ⟨hin, hne⟩ := hk.inn x hnw
    have hdn := fun F hF => mcDone_any q3 s x Y hin F hF
    rcases Bool.eq_false_or_eq_true x.done with hxd | hxd
    · rw [hxd] at hdn
      have haf := skafter_any q q3 s tr x Y hk hnw hp hok hd
      have hgo := hF.out.trans (skSettle_go hd hnw hxd)
      have hok2 := skAfter_ok hok hd hnw hxd hp.1
      have hrk2 := skAfter_rank (s := s) hd hnw
      have hback : Hid (∀ Z e, SkTurned q q3 Y Z e s (tr.after s x) → (∃ tr q3, SkAt Z q q3 s tr ∧ skOk s tr ∧ Hid (tF = skSettle s 5 tr) ∧ (q3 = q2 ∨ w.heap.size ≤ q3) ∧ Only (fun k => k = q) w Z) ∧ rkW q Z < rkW q Y) := Lib.hid fun Z e hT => by
        obtain ⟨q4, h4, h5⟩ := hT.at'
        refine ⟨⟨_, q4, h4, hok2, Lib.hid hgo, ?_, hO.trans hT.only (fun _ _ e => e)⟩, ?_⟩
        · rcases h5 with h5 | h5
          · rcases hq3 with h6 | h6
            · exact .inl (h5.trans h6)
            · exact .inr (h5 ▸ h6)
          · exact .inr (Nat.le_trans hO.size h5)
        · rw [rkW_eq h4, hrk.out]; exact hrk2
      clear hd h ho hok hk hO hp hF htF hq3 hrk hnw hstop hxd hok2 hrk2 hgo
      generalize tr.after s x = t3 at *
      replace haf := Lib.hid haf
      cases x with
      | tk x =>
        replace c6 : Y.cell? ⟨q, 6, .none⟩ = some (.iface 253 (.pointer (some ⟨q3, 0, .none⟩))) := c6
        replace hdn := Lib.hid (hdn _ rfl)
        go_wp2_with (first
          | (go_at_call 280; (with_reducible refine hdn.out.mono ?_); rintro r w1 ⟨rfl, hb1⟩; obtain rfl := hb1.symm)
          | (go_at_call 174; (with_reducible refine haf.out.mono ?_); rintro r w2 hT; obtain rfl := hT.ret)
          | fail)
        exact hback.out _ _ hT
      | sc x =>
        replace c6 : Y.cell? ⟨q, 6, .none⟩ = some (.iface 272 (.pointer (some ⟨q3, 0, .none⟩))) := c6
        replace hdn := Lib.hid (hdn _ rfl)
        go_wp2_with (first
          | (go_at_call 283; (with_reducible refine hdn.out.mono ?_); rintro r w1 ⟨rfl, hb1⟩; obtain rfl := hb1.symm)
          | (go_at_call 174; (with_reducible refine haf.out.mono ?_); rintro r w2 hT; obtain rfl := hT.ret)
          | fail)
        exact hback.out _ _ hT
      | pc x =>
        replace c6 : Y.cell? ⟨q, 6, .none⟩ = some (.iface 274 (.pointer (some ⟨q3, 0, .none⟩))) := c6
        replace hdn := Lib.hid (hdn _ rfl)
        go_wp2_with (first
          | (go_at_call 287; (with_reducible refine hdn.out.mono ?_); rintro r w1 ⟨rfl, hb1⟩; obtain rfl := hb1.symm)
          | (go_at_call 174; (with_reducible refine haf.out.mono ?_); rintro r w2 hT; obtain rfl := hT.ret)
          | fail)
        exact hback.out _ _ hT
      | sp x =>
        replace c6 : Y.cell? ⟨q, 6, .none⟩ = some (.iface 255 (.pointer (some ⟨q3, 0, .none⟩))) := c6
        replace hdn := Lib.hid (hdn _ rfl)
        go_wp2_with (first
          | (go_at_call 231; (with_reducible refine hdn.out.mono ?_); rintro r w1 ⟨rfl, hb1⟩; obtain rfl := hb1.symm)
          | (go_at_call 174; (with_reducible refine haf.out.mono ?_); rintro r w2 hT; obtain rfl := hT.ret)
          | fail)
        exact hback.out _ _ hT
      | bn x =>
        replace c6 : Y.cell? ⟨q, 6, .none⟩ = some (.iface 276 (.pointer (some ⟨q3, 0, .none⟩))) := c6
        replace hdn := Lib.hid (hdn _ rfl)
        go_wp2_with (first
          | (go_at_call 289; (with_reducible refine hdn.out.mono ?_); rintro r w1 ⟨rfl, hb1⟩; obtain rfl := hb1.symm)
          | (go_at_call 174; (with_reducible refine haf.out.mono ?_); rintro r w2 hT; obtain rfl := hT.ret)
          | fail)
        exact hback.out _ _ hT
    · rw [hxd] at hdn
      replace hstop := Lib.hid (hstop.out (.inr (.inr ⟨x, hnw, hxd⟩)))
      clear hd h ho hok hk hO hp hF htF hq3 hrk hnw hxd
      cases x with
      | tk x =>
        replace c6 : Y.cell? ⟨q, 6, .none⟩ = some (.iface 253 (.pointer (some ⟨q3, 0, .none⟩))) := c6
        replace hdn := Lib.hid (hdn _ rfl)
        go_wp2_with (first
          | (go_at_call 280; (with_reducible refine hdn.out.mono ?_); rintro r w1 ⟨rfl, hb1⟩; obtain rfl := hb1.symm)
          | fail)
        go_returns
        exact hstop.out
      | sc x =>
        replace c6 : Y.cell? ⟨q, 6, .none⟩ = some (.iface 272 (.pointer (some ⟨q3, 0, .none⟩))) := c6
        replace hdn := Lib.hid (hdn _ rfl)
        go_wp2_with (first
          | (go_at_call 283; (with_reducible refine hdn.out.mono ?_); rintro r w1 ⟨rfl, hb1⟩; obtain rfl := hb1.symm)
          | fail)
        go_returns
        exact hstop.out
      | pc x =>
        replace c6 : Y.cell? ⟨q, 6, .none⟩ = some (.iface 274 (.pointer (some ⟨q3, 0, .none⟩))) := c6
        replace hdn := Lib.hid (hdn _ rfl)
        go_wp2_with (first
          | (go_at_call 287; (with_reducible refine hdn.out.mono ?_); rintro r w1 ⟨rfl, hb1⟩; obtain rfl := hb1.symm)
          | fail)
        go_returns
        exact hstop.out
      | sp x =>
        replace c6 : Y.cell? ⟨q, 6, .none⟩ = some (.iface 255 (.pointer (some ⟨q3, 0, .none⟩))) := c6
        replace hdn := Lib.hid (hdn _ rfl)
        go_wp2_with (first
          | (go_at_call 231; (with_reducible refine hdn.out.mono ?_); rintro r w1 ⟨rfl, hb1⟩; obtain rfl := hb1.symm)
          | fail)
        go_returns
        exact hstop.out
      | bn x =>
        replace c6 : Y.cell? ⟨q, 6, .none⟩ = some (.iface 276 (.pointer (some ⟨q3, 0, .none⟩))) := c6
        replace hdn := Lib.hid (hdn _ rfl)
        go_wp2_with (first
          | (go_at_call 289; (with_reducible refine hdn.out.mono ?_); rintro r w1 ⟨rfl, hb1⟩; obtain rfl := hb1.symm)
          | fail)
        go_returns
        exact hstop.out
theorem skdone_any (q : Nat) (cs : Array Value) (v : Bool) (w : World) (h : RowAt w q cs 252) (hv : cs[11]? = some (.bool v)) : Calls Tryz.prog 177 #[.pointer (some ⟨q, 0, .none⟩)] w fun e w' => e = .returned (.bool v) ∧ w' = w := by
  have c := (h.cell 11).trans hv
  clear h hv
  go_enter Tryz.func177, Tryz.ntmps177
  go_wp2_with fail
  go_returns
  exact ⟨rfl, rfl⟩
theorem skfound_any (q : Nat) (s : Sh) (t : Sk) (nv : Value) (w : World) (hq : RowAt w q (skCells s t nv) 252) :
    Calls Tryz.prog 175 #[.pointer (some ⟨q, 0, .none⟩)] w fun e w' => e = .returned (found2 t.found t.page t.slot) ∧ Below w.heap.size w w' := by
  obtain ⟨tc, tk, tf, tnow, tm, tpage, tslot, tfound, tdone⟩ := t
  obtain ⟨sp, sc, sm⟩ := s
  have lq := hq.lt
  have c8 : w.cell? ⟨q, 8, .none⟩ = some (.int .i64 tpage) := hq.cell 8
  have c9 : w.cell? ⟨q, 9, .none⟩ = some (.int .i64 tslot) := hq.cell 9
  have c10 : w.cell? ⟨q, 10, .none⟩ = some (.bool tfound) := hq.cell 10
  clear hq
  unfold found2
  dsimp only
  cases tfound
  · go_enter Tryz.func175, Tryz.ntmps175
    go_wp2_with fail
    go_returns
    exact ⟨rfl, Below.refl _ _⟩
  · go_enter Tryz.func175, Tryz.ntmps175
    go_wp2_with fail
    go_quiet (fail)
    have hb := below_drewN (Below.refl w.heap.size w) nq
    go_wp2_with fail
    go_returns
    exact ⟨rfl, hb⟩
theorem skfound_nil (w : World) : Calls Tryz.prog 175 #[.pointer none] w fun e w' => e = .returned (found2 false 0 0) ∧ w' = w := by
  unfold found2
  go_enter Tryz.func175, Tryz.ntmps175
  go_wp2_with fail
  go_returns
  exact ⟨rfl, rfl⟩
/-- A new Seeker was made, and handed back. -/
structure SkBorn (w w' : World) (e : Ending) (s : Sh) (t : Sk) : Prop where
  at' : ∃ q q2, e = .returned (.pointer (some ⟨q, 0, .none⟩)) ∧ w.heap.size ≤ q ∧ SkAt w' q q2 s t ∧ (t.now ≠ none → w.heap.size ≤ q2)
  below : Below w.heap.size w w'
set_option maxRecDepth 100000 in
set_option maxHeartbeats 1000000 in
theorem sknew_any (s : Sh) (c k f : Int) (w : World) :
    Calls Tryz.prog 149 #[.agg #[.int .i64 s.p, .int .i64 s.c, .int .i64 s.m], .int .i64 c, .int .i64 k, .int .i64 f] w fun e w' => SkBorn w w' e s (skNew s c k f) := by
  have hcS := fun W => planStatus_any s.p s.c s.m c W
  have hcP := fun W => planPage_any s.p s.c s.m f W
  have hcs := fun W => slots_any k W
  have hnw := fun W => tknew_any s c k W
  have hst := fun W q q2 (t : Sk) (h : SkAt W q q2 s t) hp ho => sksettle_any q q2 s t W h hp ho
  obtain ⟨tN, htN, htN'⟩ : ∃ tN, Hid (tN = skNew s c k f) ∧ tN = skNew s c k f := ⟨_, Lib.hid rfl, rfl⟩
  rw [← htN']
  clear htN'
  have hbad : Hid (∀ W X, Below w.heap.size w W → Below W.heap.size W X → ¬ (0 ≤ statusIx s.p s.c s.m c ∧ 0 < slotsV k ∧ 0 ≤ pageIx s.p s.c s.m f) → SkBorn w (X.alloc (.cells (skCells s ⟨c, k, f, none, 0, 0, 0, false, true⟩ .nilIface) 252)) (.returned (.pointer (some ⟨X.heap.size, 0, .none⟩))) s tN) := Lib.hid fun W X h1 h2 h3 => by
    have e : tN = ⟨c, k, f, none, 0, 0, 0, false, true⟩ := by rw [htN.out]; unfold skNew; rw [if_neg h3]
    have hb := belowTrans h1 h2
    refine ⟨⟨_, 0, rfl, hb.size, ⟨by rw [e]; exact heap_alloc_new _ _, fun x hx => ?_⟩, fun hn => ?_⟩, hb.trans ((Below.refl _ _).alloc hb.size _)⟩
    · rw [e] at hx; cases hx
    · rw [e] at hn; exact absurd rfl hn
  have hgood : Hid (0 ≤ statusIx s.p s.c s.m c ∧ 0 < slotsV k ∧ 0 ≤ pageIx s.p s.c s.m f → tN = skSettle s 5 ⟨c, k, f, some (.tk (tkNew s c k)), 0, 0, 0, false, false⟩ ∧ (1 ≤ s.p ∧ s.p ≤ 64) ∧ skOk s ⟨c, k, f, some (.tk (tkNew s c k)), 0, 0, 0, false, false⟩) := Lib.hid fun h => by
    refine ⟨by rw [htN.out]; unfold skNew; rw [if_pos h], ?_⟩
    have h1 := statusIx_ok h.1
    have h2 := mayB_iff.1 h1.1
    have h3 := pageIx_ok h.2.2
    refine ⟨by omega, ⟨fun _ => ⟨by dsimp only; omega, h.2.1, by dsimp only; omega, by dsimp only; omega, fun x hx => ?_⟩, fun e => (by cases e)⟩⟩
    simp only [Option.some.injEq] at hx
    subst hx
    exact ⟨tkNew_ok _ _ _, rfl⟩
  generalize statusIx s.p s.c s.m c = sx at *
  generalize pageIx s.p s.c s.m f = px at *
  generalize slotsV k = sv at *
  obtain ⟨sp, sc, sm⟩ := s
  dsimp only at hcS hcP hnw ⊢
  replace hcS := Lib.hid hcS
  replace hcP := Lib.hid hcP
  replace hcs := Lib.hid hcs
  replace hnw := Lib.hid hnw
  replace hst := Lib.hid hst
  clear htN
  have hb0 := (Below.refl w.heap.size w).alloc (Nat.le_refl _) (.cells #[.int .i64 sp, .int .i64 sc, .int .i64 sm] 23)
  have t0 := heap_alloc_new w (.cells #[.int .i64 sp, .int .i64 sc, .int .i64 sm] 23)
  have hcs4 : (sx < 0) ∨ (0 ≤ sx ∧ sv ≤ 0) ∨ (0 ≤ sx ∧ 0 < sv ∧ px < 0) ∨ (0 ≤ sx ∧ 0 < sv ∧ 0 ≤ px) := by omega
  go_enter Tryz.func149, Tryz.ntmps149
  go_upto_region 1 with fail
  generalize w.alloc (.cells #[.int .i64 sp, .int .i64 sc, .int .i64 sm] 23) = W at *
  obtain ⟨H, hH, hH'⟩ : ∃ H, Hid (H = w.heap.size) ∧ H = w.heap.size := ⟨_, Lib.hid rfl, rfl⟩
  rw [← hH'] at t0 ⊢
  have lH : H < W.heap.size := (Array.getElem?_eq_some_iff.1 t0).1
  have c0 : W.cell? ⟨H, 0, .none⟩ = some (.int .i64 sp) := rowCells t0 0
  have c1 : W.cell? ⟨H, 1, .none⟩ = some (.int .i64 sc) := rowCells t0 1
  have c2 : W.cell? ⟨H, 2, .none⟩ = some (.int .i64 sm) := rowCells t0 2
  clear hH' t0
  rcases hcs4 with h1 | ⟨h1, h2⟩ | ⟨h1, h2, h3⟩ | ⟨h1, h2, h3⟩
  case inr.inr.inr =>
    go_upto_region 4 with (first
      | (go_at_call 43; (with_reducible refine (hcS.out _).mono ?_); rintro r w1 ⟨rfl, hb1⟩; have d0 := keepF hb1 _ _ _ c0; have d1 := keepF hb1 _ _ _ c1; have d2 := keepF hb1 _ _ _ c2)
      | (go_at_call 159; (with_reducible refine (hcs.out _).mono ?_); rintro r w3 ⟨rfl, rfl⟩)
      | (go_at_call 160; (with_reducible refine (hcP.out _).mono ?_); rintro r w2 ⟨rfl, hb2⟩; have e0 := keepF hb2 _ _ _ d0; have e1 := keepF hb2 _ _ _ d1; have e2 := keepF hb2 _ _ _ d2)
      | fail)
    obtain ⟨hN, hpb, hok0⟩ := hgood.out ⟨h1, h2, h3⟩
    replace hN := Lib.hid hN
    have hbA := belowTrans hb0 (belowTrans hb1 hb2)
    have hbZ := hbA.trans ((Below.refl w2.heap.size w2).alloc (Nat.le_refl _) (.cells #[.int .i64 sp, .int .i64 sc, .int .i64 sm, .int .i64 c, .int .i64 k, .int .i64 f, .nilIface, .int .i64 0, .int .i64 0, .int .i64 0, .bool false, .bool false] 252) |>.mono hbA.size)
    have tq : RowAt (w2.alloc (.cells #[.int .i64 sp, .int .i64 sc, .int .i64 sm, .int .i64 c, .int .i64 k, .int .i64 f, .nilIface, .int .i64 0, .int .i64 0, .int .i64 0, .bool false, .bool false] 252)) w2.heap.size (skCells ⟨sp, sc, sm⟩ ⟨c, k, f, none, 0, 0, 0, false, false⟩ .nilIface) 252 := heap_alloc_new _ _
    have hbZ2 := (Below.refl w2.heap.size w2).alloc (Nat.le_refl _) (.cells #[.int .i64 sp, .int .i64 sc, .int .i64 sm, .int .i64 c, .int .i64 k, .int .i64 f, .nilIface, .int .i64 0, .int .i64 0, .int .i64 0, .bool false, .bool false] 252)
    have hZs' : w2.heap.size + 1 = (w2.alloc (.cells #[.int .i64 sp, .int .i64 sc, .int .i64 sm, .int .i64 c, .int .i64 k, .int .i64 f, .nilIface, .int .i64 0, .int .i64 0, .int .i64 0, .bool false, .bool false] 252)).heap.size := by simp
    generalize w2.alloc (.cells #[.int .i64 sp, .int .i64 sc, .int .i64 sm, .int .i64 c, .int .i64 k, .int .i64 f, .nilIface, .int .i64 0, .int .i64 0, .int .i64 0, .bool false, .bool false] 252) = Z at *
    have lq := tq.lt
    have hqw : w.heap.size ≤ w2.heap.size := hbA.size
    have hHq : H < w2.heap.size := cell_lt e0
    have hZs : w2.heap.size + 1 = Z.heap.size := hZs'
    have y0 : Z.cell? ⟨H, 0, .none⟩ = some (.int .i64 sp) := (hbZ2.cell (p := ⟨H, 0, .none⟩) hHq).trans e0
    have y1 : Z.cell? ⟨H, 1, .none⟩ = some (.int .i64 sc) := (hbZ2.cell (p := ⟨H, 1, .none⟩) hHq).trans e1
    have y2 : Z.cell? ⟨H, 2, .none⟩ = some (.int .i64 sm) := (hbZ2.cell (p := ⟨H, 2, .none⟩) hHq).trans e2
    clear hbad hgood hbZ2 hbA hb1 hb2 d0 d1 d2 e0 e1 e2 c0 c1 c2 h1 h2 h3 hcS hcP hcs hZs hZs'
    obtain ⟨q, hq, hq'⟩ : ∃ q, Hid (q = w2.heap.size) ∧ q = w2.heap.size := ⟨_, Lib.hid rfl, rfl⟩
    rw [← hq'] at tq lq hqw ⊢
    clear hq' hHq
    go_wp2_with (first
      | (go_at_call 161; (with_reducible refine (hnw.out _).mono ?_); rintro r w4 ⟨q2, rfl, hq2, hrow2, hb4⟩; have tq4 := tq.below hb4; have z6 := tq4.cell 6; have zf := rowFree tq4)
      | (go_at_call 162; (with_reducible refine (hst.out _ q q2 ⟨c, k, f, some (.tk (tkNew ⟨sp, sc, sm⟩ c k)), 0, 0, 0, false, false⟩ ⟨(tq4.set 6 _).cast rfl, fun x hx => by simp only [Option.some.injEq] at hx; subst hx; exact ⟨hrow2.other (by omega) _ _, by omega⟩⟩ hpb hok0).mono ?_); rintro r w5 hT; obtain rfl := hT.ret)
      | fail)
    go_returns
    obtain ⟨q3, hk, h3⟩ := hT.at'
    rw [hN.out]
    have hsz : (w4.setCell ⟨q, 6, .none⟩ (.iface 253 (.pointer (some ⟨q2, 0, .none⟩)))).heap.size = w4.heap.size := by simp [World.setCell]
    refine ⟨⟨q, q3, rfl, hqw, hk, fun _ => ?_⟩, ?_⟩
    · have := hbZ.size; have := hb4.size
      rcases h3 with h3 | h3 <;> omega
    · exact (((Only.of_below (F := fun k => k = q) (hbZ.trans (hb4.mono hbZ.size))).setCell (.inl rfl) _).trans hT.only (fun _ _ e => e)).below (Nat.le_refl _) (fun k e => e ▸ hqw)
  all_goals
    try have q3 : decide (0 ≤ px) = false := decide_eq_false (Int.not_le.2 h3)
    go_wp2_with (first
      | (go_at_call 43; (with_reducible refine (hcS.out _).mono ?_); rintro r w1 ⟨rfl, hb1⟩; have d0 := keepF hb1 _ _ _ c0; have d1 := keepF hb1 _ _ _ c1; have d2 := keepF hb1 _ _ _ c2)
      | (go_at_call 159; (with_reducible refine (hcs.out _).mono ?_); rintro r w3 ⟨rfl, rfl⟩)
      | (go_at_call 160; (with_reducible refine (hcP.out _).mono ?_); rintro r w2 ⟨rfl, hb2⟩; have e0 := keepF hb2 _ _ _ d0; have e1 := keepF hb2 _ _ _ d1; have e2 := keepF hb2 _ _ _ d2)
      | fail)
    go_returns
  · exact hbad.out _ _ hb0 hb1 (by omega)
  · exact hbad.out _ _ hb0 hb1 (by omega)
  · exact hbad.out _ _ hb0 (belowTrans hb1 hb2) (by omega)
end Go.Proofs.YtcgakbgmdabnkaaGreat
